/- Part of the proof: an evaluator of the model's code over pure trees, and what it computes. No condition of its own. -/
import Derived.Test.YtjpmhmpiglbioaaGreatDoorWi
import Derived.KernelRfl
import Derived.WalkKit
import Derived.LoopN
import Derived.LoopTactic
import Derived.Laws.IdiomRangeMap
import Derived.Maps.RangeRun
import Derived.Test.YtjpmhmpiglbioaaGreatDoorWf
import Derived.Laws.BitsLemmas
set_option linter.unusedSimpArgs false
set_option linter.unusedVariables false
namespace Go.Wn
open Go Go.Proofs
theorem run_next_empty {P : Program} {w : World} {ty R r ck : Nat} (hr : w.heap[r]? = some (.mapIter (some R) ck #[] ck)) (hR : w.heap[R]? = some (.map #[] ck)) : (Instr.next (.pointer (some ⟨r, 0, none⟩)) false ty).run P w = .ok (.tuple #[.bool false]) w := by
  rcases run_next_at (P := P) w ty r R ck ck #[] #[] ck hr hR (by simp) (Nat.le_refl _) with ⟨_, h⟩ | ⟨e, he, _⟩
  · exact h
  · simp [leftOf] at he

set_option maxRecDepth 1000000 in
theorem rising_walk {R ck : Nat} {w : World} (hR : w.heap[R]? = some (.map #[] ck)) {Post : World → Prop}
    (h180 : Calls Tryz.prog 180 #[.slice none 0 0, .func (.func 181) #[] #[]] (w.alloc (.mapIter (some R) ck #[] ck)) (fun e w' => (∃ v, e = .returned v) ∧ Post w')) :
    Calls Tryz.prog 101 #[.map (some R)] w (fun e w' => e = .returned (.slice none 0 0) ∧ Post w') := by
  have hlt : R < w.heap.size := lt_size hR
  have h1 : (w.alloc (.mapIter (some R) ck #[] ck)).heap[w.heap.size]? = some (.mapIter (some R) ck #[] ck) := heap_alloc_at w _
  have h2 : (w.alloc (.mapIter (some R) ck #[] ck)).heap[R]? = some (.map #[] ck) := by rw [heap_alloc_lt w _ hlt]; exact hR
  have hnx := fun ty => run_next_empty (P := Tryz.prog) (ty := ty) h1 h2
  have hrg := run_range_map (P := Tryz.prog) w 172 287 4 R #[] ck Tryz.underlying172 hR
  go_enter Tryz.func101, Tryz.ntmps101
  go_wp2
  refine wp_loop_rounds 1 ?_
  rw [rounds_succ]
  go_wp2_with (go_at_call 180; refine h180.mono ?_; rintro e w' ⟨⟨v, rfl⟩, hP⟩)
  go_ret
  exact ⟨rfl, hP⟩

theorem drawOk_sum (E : Env) (s : FuncId → Option (Ctx → List V → Heap → Option (V × Heap))) (ops : Array Oper) : drawOk { E with sum := s } ops = drawOk E ops := rfl

theorem codeOk_sum (E : Env) (s : FuncId → Option (Ctx → List V → Heap → Option (V × Heap))) (f n : Nat) : ∀ c : Code, codeOk { E with sum := s } f n c = codeOk E f n c := by
  intro c
  induction c with
  | seq a b iha ihb => simp only [codeOk, iha, ihb]
  | cond c a b iha ihb => simp only [codeOk, iha, ihb]
  | block id c ih => simp only [codeOk, ih]
  | loop c ih => simp only [codeOk, ih]
  | region id ops draw => simp only [codeOk, drawOk_sum]
  | _ => rfl

theorem sort_nil (K : Ctx) (h : Heap) : (hand env0 60).1 K 180 [.p .nils, .clo (.func 181) [] []] h = some (.tup [], h) := by kernel_rfl

def risS : Ctx → List V → Heap → Option (V × Heap) := fun _ xs h =>
  match xs with
  | [.mp b] => match h[b]? with
    | some (.map [] _) => some (.p .nils, h)
    | _ => none
  | _ => none

noncomputable def env1 : Env := { env0 with sum := fun f => cond (Nat.beq f 101) (some risS) none }

theorem env1_sum {f : FuncId} {S : Ctx → List V → Heap → Option (V × Heap)} (h : env1.sum f = some S) : f = 101 ∧ S = risS := by
  simp only [env1] at h
  cases e : Nat.beq f 101 with
  | true => rw [e] at h; simp only [cond_true, Option.some.injEq] at h; exact ⟨Nat.eq_of_beq_eq_true e, h.symm⟩
  | false => rw [e] at h; cases h

theorem risS_some {K : Ctx} {xs : List V} {h h' : Heap} {v : V} (he : risS K xs h = some (v, h')) : ∃ b vs, xs = [.mp b] ∧ h[b]? = some (.map [] vs) ∧ v = .p .nils ∧ h = h' := by
  unfold risS at he
  split at he
  · split at he
    · rename_i hb
      simp only [Option.some.injEq, Prod.mk.injEq] at he
      exact ⟨_, _, rfl, hb, he.1.symm, he.2⟩
    · cases he
  · cases he

theorem env1_ok : EnvOk Tryz.prog env1 where
  tab := env0_ok.tab
  code := fun f fn c hs hf hb => by
    have := codesOk_get fnT f fn c codes0 hf hb
    rw [← codeOk_sum env0 env1.sum f fn.ntmps c] at this
    exact this
  sump := fun f S hS K xs h v h' he hro hl => by
    obtain ⟨rfl, rfl⟩ := env1_sum hS
    obtain ⟨b, vs, rfl, hb, rfl, rfl⟩ := risS_some he
    exact ⟨rfl, .refl _ _, fun _ => rfl⟩
  sum := fun f S hS K xs h v h' he hK hl Cx g w ys hr => by
    obtain ⟨rfl, rfl⟩ := env1_sum hS
    obtain ⟨b, vs, rfl, hb, rfl, rfl⟩ := risS_some he
    obtain ⟨ys', e, hyl, hyc⟩ := tup_inv hr.val
    simp only [Value.tuple.injEq] at e
    subst e
    obtain ⟨y0, rfl⟩ : ∃ y, ys = #[y] := ⟨ys[0]'(by simp at hyl; omega), by
      apply Array.ext
      · simpa using hyl
      · intro i h1 h2
        have : i = 0 := by simp at h2; omega
        subst this; rfl⟩
    have hv := hyc 0 (.mp b) (by simp)
    simp only [Array.getD_eq_getD_getElem?, List.getElem?_toArray, List.getElem?_cons_zero, Option.getD_some] at hv
    cases hv with
    | mp _ R hs hρ =>
      obtain ⟨hX, es, ck, hR, h1, _⟩ := hr.hp.blk b _ R hb hρ
      have hes : es = #[] := Array.eq_empty_of_size_eq_zero (by simpa using h1)
      subst hes
      let w1 := w.alloc (.mapIter (some R) ck #[] ck)
      have hrel := hr.rel
      have stF := Stp.alloc (D := fun B => fcnt B fr0 #[] + lcnt B w [] g.lam + hcnt B w h g.ρ + Cx B) (g := g) (g' := g) (w := w) (.mapIter (some R) ck #[] ck) (fun _ _ => rfl) (.refl g) fun B hB => by
        have := (RelV.of_rel hrel).cnt_lt hB; simp only at this; omega
      have h9 : w.heap.size ≤ w1.heap.size := stF.size
      have hrel1 : Rel Cx g w1 #[] fr0 ⟨[], h⟩ := hrel.step (g' := g) (w' := w1) stF rfl rfl rfl (fun B hB => hrel.hp.new B (by omega)) (fun B hB => hrel.cnew B (by omega))
      have hargs : RelV Cx g w1 #[] fr0 ⟨[], h⟩ (.tup [.p .nils, .clo (.func 181) [] []]) (.tuple #[.slice none 0 0, .func (.func 181) #[] #[]]) := by
        refine hrel1.withV0 (.tup _ _ rfl fun j c hj => ?_) (fun B => by simp [pm, pmL])
        match j, hj with
        | 0, hj => simp at hj; subst hj; exact .p _ _ .nils
        | 1, hj =>
          simp at hj; subst hj
          exact .clo _ [] [] #[] #[] rfl rfl (fun B => rfl) (fun B => rfl) (fun j c hj => by simp at hj) (fun j c hj => by simp at hj)
      obtain ⟨_, hcall⟩ := (hand_ok env0_ok 60).1 K 180 _ h _ _ (sort_nil K h) hK rfl
      have h180 := hcall Cx g w1 _ hargs
      have m1 : env1.md 101 = 2 := by kernel_rfl
      have m0 : env0.md 180 = 2 := by kernel_rfl
      refine (rising_walk hR (Post := fun w' => ∃ y g', CallPost env0 K 180 Cx g w1 h (.tup []) h y g' w') (h180.mono fun e w' he => ?_)).mono fun e w' he => ?_
      · obtain ⟨y, g', he, hp⟩ := he
        exact ⟨⟨y, he⟩, y, g', hp⟩
      · obtain ⟨rfl, y, g', hp⟩ := he
        refine ⟨_, g', rfl, hp.rel.rel.withV0 (.p _ _ .nils) fun B => pm_p B _ _, ?_, fun b hb => hp.old b ?_⟩
        · have hst := hp.stp
          simp only [m0, m1, Nat.le_refl, if_true, List.take_length] at hst ⊢
          have st0 := stF.mono (D' := fun B => Cx B + hcnt B w h g.ρ) fun B => by omega
          refine st0.trans (hst.mono fun B => Nat.le_of_eq ?_)
          rw [HeapRel.cnt_keep (stF.mono (D' := fun B => hcnt B w h g.ρ) fun B => by omega).kp B]
        · rw [m0]; rw [m1] at hb; exact hb

end Go.Wn

namespace Go.Wn
open Go

/-! Running the evaluator on values that are variables. -/

structure Pf (fr : Fr) : Prop where
  no : ∀ t, hasOwn (rd fr t) = false
structure Pm (m : Mem) : Prop where
  l : ∀ cs ∈ m.lm, hasOwnL cs = false
  h : ∀ x ∈ m.h, match x with
  | .var cs => hasOwnL cs = false
  | .arr _ rs => ∀ r ∈ rs, hasOwnL r = false
  | .map _ _ => True

theorem Pf.set {fr : Fr} (h : Pf fr) {d : Nat} {v : V} (hv : hasOwn v = false) : Pf (setF fr d v) := ⟨fun t => by
  rw [rd_setF]
  split
  · exact hv
  · exact h.no t⟩

theorem Pf.p {fr : Fr} (h : Pf fr) {d : Nat} {x : PV} : Pf (setF fr d (.p x)) := h.set rfl
theorem Pf.lp {fr : Fr} (h : Pf fr) {d b j : Nat} : Pf (setF fr d (.lptr b j)) := h.set rfl
theorem Pf.pt {fr : Fr} (h : Pf fr) {d b j : Nat} : Pf (setF fr d (.ptr b j)) := h.set rfl
theorem Pf.cl {fr : Fr} (h : Pf fr) {d : Nat} {f : Fn} {a b : List V} : Pf (setF fr d (.clo f a b)) := h.set rfl
theorem Pf.nv {fr : Fr} (h : Pf fr) {d : Nat} : Pf (setF fr d .nov) := h.set rfl

theorem hasOwnL_all : ∀ cs : List V, hasOwnL cs = cs.any hasOwn
  | [] => rfl
  | c :: cs => by simp [hasOwnL, hasOwnL_all cs]

theorem hasOwnL_cut {cs : List V} (h : hasOwnL cs = false) (j n : Nat) : hasOwnL ((cs.drop j).take n) = false := by
  rw [hasOwnL_all] at *
  rw [List.any_eq_false] at *
  exact fun x hx => h x (List.mem_of_mem_drop (List.mem_of_mem_take hx))

theorem hasOwnL_pure (l : List PV) : hasOwnL (l.map V.p) = false := by
  induction l with
  | nil => rfl
  | cons x xs ih => simp [hasOwnL, hasOwn, ih]

theorem ld_pm {m : Mem} (hm : Pm m) {a : V} {n : Nat} {cs : List V} (h : ld m a n = some cs) : hasOwnL cs = false := by
  have gc : ∀ {l : List V} {j : Nat}, hasOwnL l = false → getCells l j n = some cs → hasOwnL cs = false := fun hl hg => by
    unfold getCells at hg
    split at hg
    · simp only [Option.some.injEq] at hg; subst hg; exact hasOwnL_cut hl _ _
    · cases hg
  unfold ld at h
  split at h
  · split at h
    · rename_i hx; exact gc (hm.l _ (List.mem_of_getElem? hx)) h
    · cases h
  · split at h
    · rename_i hx; exact gc (hm.h _ (List.mem_of_getElem? hx)) h
    · cases h
  · split at h
    · rename_i hx
      split at h
      · split at h
        · rename_i hr; exact gc (hm.h _ (List.mem_of_getElem? hx) _ (List.mem_of_getElem? hr)) h
        · cases h
      · cases h
    · cases h
  · split at h
    · simp only [Option.some.injEq] at h; subst h; exact hasOwnL_pure _
    · cases h
  · cases h

theorem takeS_pf {E : Env} {nf sq : Bool} {ro : Nat} {pre : List Oper} {fr : Fr} {m : Mem} (hf : Pf fr) (hm : Pm m) (t : Nat) : takeS E nf sq ro pre fr m (.tmp t) = (rd fr t, m, fr) := by
  simp only [takeS, hf.no t, Bool.false_eq_true, if_false]
  split
  · rename_i s _; simp only [hf.no s, Bool.false_eq_true, if_false]
  · split
    · split
      · rfl
      · split
        · rfl
        · rename_i hl
          rw [ld_pm hm hl]
          simp
    · rfl

theorem takeS_c {E : Env} {nf sq : Bool} {ro : Nat} {pre : List Oper} {fr : Fr} {m : Mem} (v : Value) : takeS E nf sq ro pre fr m (.const v) = (constV nf v, m, fr) := rfl

/-- the operations of a region, one behind the other -/
def evL (E : Env) (C : Handler) (K : Ctx) (f rid : Nat) (tk : Bool) (ops : Array Oper) : List Oper → Nat → St → Option St
  | [], _, st => some st
  | o :: l, i, st => match wantedV ops st.fr o with
    | some true => (evOp E C K f rid tk (ops.toList.take i) o st.fr st.m).bind fun r => if tk || r.m.h.length == st.m.h.length then evL E C K f rid tk ops l (i + 1) ⟨putF r.fr o.dst r.v, if tk then r.m else st.m⟩ else none
    | some false => evL E C K f rid tk ops l (i + 1) ⟨putF st.fr o.dst .nov, st.m⟩
    | none => none

theorem evOps_list (E : Env) (C : Handler) (K : Ctx) (f rid : Nat) (ops : Array Oper) : ∀ (l : List Oper) (i : Nat) (st : St), ops.toList.drop i = l → evOps E C K f rid true ops (List.range' i l.length) st = evL E C K f rid true ops l i st
  | [], i, st, _ => rfl
  | o :: l, i, st, h => by
    have h0 : ops[i]? = some o := by
      have := congrArg (fun l => l[0]?) h
      simpa using this
    have h1 : ops.toList.drop (i + 1) = l := by
      have := congrArg List.tail h
      simpa using this
    simp only [List.length_cons, List.range'_succ, evOps, evL, h0, Bool.true_or, if_true]
    cases hw : wantedV ops st.fr o with
    | none => rfl
    | some b => cases b with
      | true =>
        simp only
        congr 1
        funext r
        exact evOps_list E C K f rid ops l (i + 1) _ h1
      | false => exact evOps_list E C K f rid ops l (i + 1) _ h1

theorem evReg (E : Env) (C : Handler) (K : Ctx) (f rid : Nat) (ops : Array Oper) (st : St) : evRegion E C K f rid ops false st = evL E C K f rid true ops ops.toList 0 st := by
  have := evOps_list E C K f rid ops ops.toList 0 st (by simp)
  unfold evRegion
  simp only [Bool.false_eq_true, if_false]
  rw [List.range_eq_range', ← this]
  simp

theorem evDraw_list (E : Env) (C : Handler) (K : Ctx) (f rid : Nat) (ops : Array Oper) (b' : Array Nat) (hc : ∀ o ∈ ops.toList, clsOf E o ≠ 3 ∧ isAlloc o = false) :
    ∀ (l : List Oper) (i : Nat) (dn : List (Nat × Oper × Fr × V)) (st : St), ops.toList.drop i = l → evDrawOps E C K f rid ops b' (List.range' i l.length) dn [] st = evL E C K f rid false ops l i st
  | [], i, dn, st, _ => rfl
  | o :: l, i, dn, st, h => by
    have h0 : ops[i]? = some o := by
      have := congrArg (fun l => l[0]?) h
      simpa using this
    have h1 : ops.toList.drop (i + 1) = l := by
      have := congrArg List.tail h
      simpa using this
    obtain ⟨hc3, hal⟩ := hc o (List.mem_of_getElem? (by simpa using h0 : ops.toList[i]? = some o))
    simp only [List.length_cons, List.range'_succ, evDrawOps, evL, h0, hal, Bool.false_eq_true, if_false, Bool.false_or]
    cases hw : wantedV ops st.fr o with
    | none => rfl
    | some b => cases b with
    | false => exact evDraw_list E C K f rid ops b' hc l (i + 1) _ _ h1
    | true =>
      simp only
      congr 1
      funext r
      have e : (clsOf E o != 3) = true := by simpa using hc3
      rw [e]
      simp only [Bool.true_and]
      by_cases hl : r.m.h.length = st.m.h.length
      · have e1 : (r.m.h.length != st.m.h.length) = false := by simp [hl]
        have e2 : (r.m.h.length == st.m.h.length) = true := by simp [hl]
        rw [e1, e2]
        simp only [Bool.false_eq_true, if_false, if_neg hc3, List.all_nil, if_true]
        split
        · exact evDraw_list E C K f rid ops b' hc l (i + 1) _ _ h1
        · exact evDraw_list E C K f rid ops b' hc l (i + 1) _ _ h1
      · have e1 : (r.m.h.length != st.m.h.length) = true := by simp [hl]
        have e2 : (r.m.h.length == st.m.h.length) = false := by simp [hl]
        rw [e1, e2]
        simp

theorem evRegD (E : Env) (C : Handler) (K : Ctx) (f rid : Nat) (ops : Array Oper) (st : St) (hd : E.dok f rid = true) (hc : ops.toList.all (fun o => clsOf E o != 3 && !isAlloc o) = true) : evRegion E C K f rid ops true st = evL E C K f rid false ops ops.toList 0 st := by
  have hc' : ∀ o ∈ ops.toList, clsOf E o ≠ 3 ∧ isAlloc o = false := fun o ho => by
    rw [List.all_eq_true] at hc
    have := hc o ho
    simpa using this
  unfold evRegion
  simp only [if_true, hd]
  have hal : (List.range ops.size).filter (fun i => (ops[i]?).any isAlloc) = [] := by
    rw [List.filter_eq_nil_iff]
    intro i hi
    cases ho : ops[i]? with
    | none => simp
    | some o =>
      have := (hc' o (List.mem_of_getElem? (by simpa using ho : ops.toList[i]? = some o))).2
      simp [this]
  rw [hal]
  simp only [evOps, Option.bind_some]
  rw [List.range_eq_range']
  have := evDraw_list E C K f rid ops (Region.before ops) hc' ops.toList 0 [] st (by simp)
  rw [← this]
  simp

theorem rd_mask_lt {n t : Nat} (fr : Fr) (h : t < n) : rd (mask n fr) t = rd fr t := by
  have key : ∀ n, t < n → look (keepF fr n) t .und = rd fr t := by
    intro n
    induction n with
    | zero => intro h; omega
    | succ n ih =>
      intro h
      simp only [keepF, look]
      cases e : Nat.beq n t with
      | true => have := Nat.eq_of_beq_eq_true e; subst this; rfl
      | false =>
        have : n ≠ t := fun e' => by subst e'; simp at e
        exact ih (by omega)
  exact key n h

theorem Pf.mask {fr : Fr} (h : Pf fr) (n : Nat) : Pf (mask n fr) := ⟨fun t => by
  rcases rd_mask n fr t with e | e <;> rw [e]
  · exact h.no t
  · rfl⟩

/-- where a call starts -/
def start (as' : List V) : Fr := ⟨as'.zipIdx.map fun x => (x.2, x.1), .nov⟩

theorem rd_start (xs : List V) (t : Nat) : rd (start xs) t = xs.getD t .nov := by
  have := look_zip xs 0 t
  rw [Nat.zero_add] at this
  exact this

theorem Pf.start {xs : List V} (h : ∀ x ∈ xs, hasOwn x = false) : Pf (start xs) := ⟨fun t => by
  rw [rd_start]
  rcases Nat.lt_or_ge t xs.length with ht | ht
  · have : xs.getD t V.nov = xs[t] := by simp [List.getD, List.getElem?_eq_getElem ht]
    rw [this]; exact h _ (by simp)
  · have : xs.getD t V.nov = .nov := by simp [List.getD, List.getElem?_eq_none ht]
    rw [this]; rfl⟩

theorem hand_fn {E : Env} {d : Nat} {K : Ctx} {f : Nat} {fn : Func} {xs : List V} {h : Heap} (hs : E.sum f = none) (hf : E.Q.fn f = some fn) :
    (hand E (d + 1)).1 K f xs h = evBody E (hand E d).1 (hand E d).2 K f fn xs h := by
  simp only [hand, evFn, hs, hf]

/-- a function of mode 2 with one result -/
theorem body2 {E : Env} {C : Handler} {L : LHandler} {K : Ctx} {f : Nat} {fn : Func} {code : Code} {xs : List V} {h : Heap} {t : Nat} {x : PV} {ex : Ex} {fr : Fr} {m : Mem} (hb : fn.body = some code) (hm : E.md f = 2) (hr : fn.results = #[.tmp t]) (hl : xs.length ≤ fn.ntmps)
    (he : evCode E C L ⟨h.length, h.length⟩ f code ⟨start xs, ⟨[], h⟩⟩ = some (ex, ⟨fr, m⟩)) (hx : ex = .nrm ∨ ex = .ret) (hv : rd fr t = .p x) : evBody E C L K f fn xs h = some (.p x, h) := by
  have hc : ctxOf (E.md f) K h.length = ⟨h.length, h.length⟩ := by rw [hm]; rfl
  have hres : resV E.Q fr m fn.results.toList = some [.p x] := by rw [hr]; simp [resV, hv]
  have hfz : fzOut (E.md f == 2) m.h h.length (.p x) = some (.p x) := by
    rw [hm]
    have : fzDepth = 99999 + 1 := rfl
    simp [fzOut, fzPure, this, fz]
  have hnd : (resTmps fn.results.toList).Nodup := by rw [hr]; simp [resTmps]
  have hnb : (resBoxes fr fn.results.toList).Nodup := by rw [hr]; simp [resBoxes]
  have he' : evCode E C L (ctxOf (E.md f) K h.length) f code ⟨⟨xs.zipIdx.map fun x => (x.2, x.1), .nov⟩, ⟨[], h⟩⟩ = some (ex, ⟨fr, m⟩) := by rw [hc]; exact he
  unfold evBody
  rw [hb]
  simp only
  rw [if_pos ⟨hl, hnd⟩, he']
  simp only [Option.bind_some]
  have hm0 : ¬ E.md f = 0 := by omega
  have hm1 : ¬ E.md f = 1 := by omega
  rcases hx with rfl | rfl <;> simp only [hres, Option.bind_some] <;> rw [if_pos ⟨rfl, hnb⟩, if_neg hm0, hfz] <;> simp [hm1]

theorem evSeq {E : Env} {C : Handler} {L : LHandler} {K : Ctx} {f : Nat} {a b : Code} {st st1 : St} (h : evCode E C L K f a st = some (.nrm, st1)) : evCode E C L K f (.seq a b) st = evCode E C L K f b st1 := by
  simp only [evCode, h, Option.bind_some]

theorem evSeqX {E : Env} {C : Handler} {L : LHandler} {K : Ctx} {f : Nat} {a b : Code} {st st1 : St} {e : Ex} (h : evCode E C L K f a st = some (e, st1)) (hn : e ≠ .nrm) : evCode E C L K f (.seq a b) st = some (e, st1) := by
  cases e with
  | nrm => exact absurd rfl hn
  | ext i => simp only [evCode, h, Option.bind_some]
  | ret => simp only [evCode, h, Option.bind_some]

theorem wrap_in {n : Int} (h1 : -9223372036854775808 ≤ n) (h2 : n ≤ 9223372036854775807) : IntKind.i64.wrap n = n := by
  rw [IntKind.wrap_i64]; omega

/-- a loop whose body keeps the memory as it is -/
theorem loop_next {E : Env} {C : Handler} {L : LHandler} {K : Ctx} {f : Nat} {body : Code} {fr fr' : Fr} {m : Mem} (hk : E.kl f (firstRegion body) = false) (hmlm : ∀ cs ∈ m.lm, ∃ ps : List PV, cs = ps.map .p)
    (he : evCode E C L ⟨K.ro, m.h.length⟩ f body ⟨mask (E.nvs f) fr, m⟩ = some (.nrm, ⟨fr', m⟩)) : evLoop E C L K f body ⟨fr, m⟩ = L K f body ⟨(dropTo m.lm.length m.h.length ⟨fr', m⟩).fr, m⟩ := by
  unfold evLoop
  simp only [hk, Bool.false_eq_true, if_false, he, Option.bind_some]
  congr 1
  have : (dropTo m.lm.length m.h.length ⟨fr', m⟩).m = m := by
    simp only [dropTo, List.take_length]
    have : m.lm.map (fun cs => cs.map (clrR m.lm.length m.h.length)) = m.lm := by
      have key : ∀ l : List (List V), (∀ cs ∈ l, ∃ ps : List PV, cs = ps.map .p) → l.map (fun cs => cs.map (clrR m.lm.length m.h.length)) = l := by
        intro l
        induction l with
        | nil => intro _; rfl
        | cons c l ih =>
          intro h
          obtain ⟨ps, rfl⟩ := h c (by simp)
          simp only [List.map_cons, ih fun cs hc => h cs (by simp [hc])]
          congr 1
          simp [clrR, rb, lb]
      exact key m.lm hmlm
    rw [this]
  generalize dropTo m.lm.length m.h.length ⟨fr', m⟩ = q at *
  obtain ⟨qf, qm⟩ := q
  simp only at this
  subst this
  rfl

theorem loop_stop {E : Env} {C : Handler} {L : LHandler} {K : Ctx} {f : Nat} {body : Code} {fr : Fr} {m : Mem} {e : Ex} {st : St} (hk : E.kl f (firstRegion body) = false) (he : evCode E C L ⟨K.ro, m.h.length⟩ f body ⟨mask (E.nvs f) fr, m⟩ = some (e, st)) (hn : e ≠ .nrm) :
    evLoop E C L K f body ⟨fr, m⟩ = some (e, st) := by
  unfold evLoop
  simp only [hk, Bool.false_eq_true, if_false, he, Option.bind_some]

theorem rd_drop (l n : Nat) (fr : Fr) (m : Mem) (t : Nat) : rd (dropTo l n ⟨fr, m⟩).fr t = clrR l n (rd fr t) := look_map (clrR l n) t fr.d fr.l

theorem Pf.drop {fr : Fr} (h : Pf fr) (l n : Nat) (m : Mem) : Pf (dropTo l n ⟨fr, m⟩).fr := ⟨fun t => by
  rw [rd_drop]
  unfold clrR
  split
  · exact h.no t
  · rfl⟩

end Go.Wn

namespace Go.Wn
open Go Go.Proofs

theorem u74 : env1.Q.und 74 = some (.slice 93) := by kernel_rfl
theorem u75 : env1.Q.und 75 = some (.slice 193) := by kernel_rfl
theorem u42 : env1.Q.und 42 = some (.slice 3) := by kernel_rfl
theorem u93 : env1.Q.und 93 = some (.array 3 3) := by kernel_rfl
theorem u193 : env1.Q.und 193 = some (.array 2 3) := by kernel_rfl
theorem u3 : env1.Q.und 3 = some (.int .i64) := by kernel_rfl
theorem z93 : env1.Q.sz 93 = some 3 := by kernel_rfl
theorem z193 : env1.Q.sz 193 = some 2 := by kernel_rfl
theorem z3 : env1.Q.sz 3 = some 1 := by kernel_rfl
theorem z74 : env1.Q.sz 74 = some 1 := by kernel_rfl
theorem z75 : env1.Q.sz 75 = some 1 := by kernel_rfl
theorem z42 : env1.Q.sz 42 = some 1 := by kernel_rfl
theorem a93 : aggT env1.Q 93 = some true := by kernel_rfl
theorem a193 : aggT env1.Q 193 = some true := by kernel_rfl
theorem a3 : aggT env1.Q 3 = some false := by kernel_rfl
theorem a74 : aggT env1.Q 74 = some false := by kernel_rfl
theorem a75 : aggT env1.Q 75 = some false := by kernel_rfl
theorem a42 : aggT env1.Q 42 = some false := by kernel_rfl
theorem p93 : env1.Q.plain 93 = true := by kernel_rfl
theorem p193 : env1.Q.plain 193 = true := by kernel_rfl
theorem nf1 (f : Nat) : env1.nilF f = true := rfl
theorem dk1 (f i : Nat) : env1.dok f i = true := rfl

/-- a slice: its elements; is it nil? -/
structure SL where
  l : List PV
  n : Bool
def SL.v : SL → PV
  | ⟨[], true⟩ => .nils
  | ⟨l, _⟩ => .lst l
theorem SL.v_of {es : SL} {i : Nat} {x : PV} (h : es.l[i]? = some x) : es.v = .lst es.l := by
  obtain ⟨l, n⟩ := es
  cases l with
  | nil => simp at h
  | cons a l => rfl
theorem SL.cells (es : SL) : es.v.cells = [es.v] := by
  obtain ⟨l, n⟩ := es
  cases n <;> cases l <;> rfl
theorem SL.vcells (es : SL) : V.cells (.p es.v) = [.p es.v] := by
  obtain ⟨l, n⟩ := es
  cases n <;> cases l <;> rfl
theorem vc_agg (cs : List V) : V.cells (.agg cs) = cs := rfl
theorem vc_pagg (ps : List PV) : V.cells (.p (.agg ps)) = ps.map .p := rfl
theorem vc_i (k : IntKind) (n : Int) : V.cells (.p (.i k n)) = [.p (.i k n)] := rfl
theorem SL.cellOk (es : SL) : V.cellOk (.p es.v) = true := by
  obtain ⟨l, n⟩ := es
  cases n <;> cases l <;> rfl
def SLn : SL := ⟨[], true⟩
theorem SLn_v : SLn.v = .nils := rfl

/-- three numbers, two, one -/
def t3 (a b c : Int) : PV := .agg [.i .i64 a, .i .i64 b, .i .i64 c]
def t2 (a b : Int) : PV := .agg [.i .i64 a, .i .i64 b]
def t1 (a : Int) : PV := .i .i64 a

theorem eq93 (a b c x y z : Int) : eqD env1.Q 93 (.p (.agg [.i .i64 a, .i .i64 b, .i .i64 c])) (.p (.agg [.i .i64 x, .i .i64 y, .i .i64 z])) = some (decide (a = x ∧ b = y ∧ c = z)) := by
  simp only [eqD, u93, p93, z3, List.range, List.range.loop, List.map_cons, List.map_nil, eqPs, scalT, u3, eqS, toI]
  by_cases h1 : a = x <;> by_cases h2 : b = y <;> by_cases h3 : c = z <;> simp [h1, h2, h3]
theorem eq193 (a b x y : Int) : eqD env1.Q 193 (.p (.agg [.i .i64 a, .i .i64 b])) (.p (.agg [.i .i64 x, .i .i64 y])) = some (decide (a = x ∧ b = y)) := by
  simp only [eqD, u193, p193, z3, List.range, List.range.loop, List.map_cons, List.map_nil, eqPs, scalT, u3, eqS, toI]
  by_cases h1 : a = x <;> by_cases h2 : b = y <;> simp [h1, h2]

end Go.Wn

namespace Go.Wn
open Go Go.Proofs

theorem ixa252 {h : Heap} {es : SL} {i : Nat} {x y z : Int} (hi : es.l[i]? = some (t3 x y z)) : ixAddr env1.Q h 74 (.p (es.v)) (.p (.i .i64 i)) = some (.p (.ref [.i .i64 x, .i .i64 y, .i .i64 z] 0)) := by
  have hlt := lt_of_get hi
  have : natIx (.p (.i .i64 i)) es.l.length = some i := by
    unfold natIx toI
    simp [hlt]
  rw [SL.v_of hi]
  simp only [ixAddr, u74, z93, Option.bind_some, this, hi]
  rfl

noncomputable def lp252 : Code := match Tryz.f252.body with | some (.seq _ (.seq (.seq _ (.block _ (.loop c))) _)) => c | _ => .skip

set_option maxRecDepth 100000 in
theorem round252 (C : Handler) (L : LHandler) (K : Ctx) (fr : Fr) (m : Mem) (es : SL) (i : Nat) (a b c x y z : Int) (hp : Pf fr) (hm : Pm m) (h0 : rd fr 0 = .p (es.v)) (h3 : rd fr 3 = .lptr 0 0) (h7 : rd fr 7 = .p (.i .i64 es.l.length)) (h8 : rd fr 8 = .p (.i .i64 i))
    (hm0 : m.lm[0]? = some [.p (.i .i64 a), .p (.i .i64 b), .p (.i .i64 c)]) (hi : es.l[i]? = some (t3 x y z)) (hb : es.l.length < 2 ^ 40) :
    ∃ fr', evCode env1 C L K 252 lp252 ⟨fr, m⟩ = some (if a = x ∧ b = y ∧ c = z then .ret else .nrm, ⟨fr', m⟩) ∧ Pf fr' ∧ ((a = x ∧ b = y ∧ c = z) → rd fr' 4 = .p (.i .i64 i)) ∧
      (¬ (a = x ∧ b = y ∧ c = z) → rd fr' 0 = .p (es.v) ∧ rd fr' 3 = .lptr 0 0 ∧ rd fr' 7 = .p (.i .i64 es.l.length) ∧ rd fr' 8 = .p (.i .i64 ((i + 1 : Nat) : Int))) := by
  have hlt : i < es.l.length := lt_of_get hi
  have hlt' : (i : Int) < (es.l.length : Int) := by omega
  have hix := ixa252 (h := m.h) hi
  have hw : IntKind.i64.wrap ((i : Int) + 1) = ((i + 1 : Nat) : Int) := by rw [wrap_in (by omega) (by omega)]; omega
  unfold lp252
  simp (config := { maxDischargeDepth := 80 }) only [Tryz.f252, evCode, evCode, evReg, evL, wantedV, evOp, argOf, cp, binV, intBin, putF, rd_setF, Option.map_some, Option.bind_some, if_true, Bool.true_or, decide_true, toB, takeS_pf, takeS_c, if_false, Pf.p, Pf.lp, Pf.pt, Pf.cl, Pf.nv, List.all_cons, List.all_nil, Bool.and_true, constV, constCell, nf1, ld, getCells, List.length_cons, List.length_nil, Nat.reduceEqDiff, reduceIte, Nat.reduceAdd, Nat.reduceLeDiff, List.take_succ_cons, List.take_zero, List.drop_zero, ofCells, mkAgg, mapO, V.isP, Bool.false_or, beq_self_eq_true, Bool.false_eq_true, cpL, vc_agg, vc_pagg, vc_i, PV.cells, List.map_cons, List.map_nil, Nat.zero_add, List.getElem?_cons_zero, List.getElem?_cons_succ, ↓SL.cells, ↓SL.vcells, ↓SL.cellOk, u74, z93, a93, eq93, h0, h3, h7, h8, hp, hm, hm0, hix, hlt']
  rw [evRegD]
  rotate_left
  · rfl
  · kernel_rfl
  simp (config := { maxDischargeDepth := 80 }) only [evCode, evReg, evL, wantedV, evOp, argOf, cp, binV, intBin, putF, rd_setF, Option.map_some, Option.bind_some, if_true, Bool.true_or, decide_true, toB, takeS_pf, takeS_c, if_false, Pf.p, Pf.lp, Pf.pt, Pf.cl, Pf.nv, List.all_cons, List.all_nil, Bool.and_true, constV, constCell, nf1, ld, getCells, List.length_cons, List.length_nil, Nat.reduceEqDiff, reduceIte, Nat.reduceAdd, Nat.reduceLeDiff, List.take_succ_cons, List.take_zero, List.drop_zero, ofCells, mkAgg, mapO, V.isP, Bool.false_or, beq_self_eq_true, Bool.false_eq_true, cpL, vc_agg, vc_pagg, vc_i, PV.cells, List.map_cons, List.map_nil, Nat.zero_add, List.getElem?_cons_zero, List.getElem?_cons_succ, ↓SL.cells, ↓SL.vcells, ↓SL.cellOk, u74, z93, a93, eq93, h0, h3, h7, h8, hp, hm, hm0, hix, hlt']
  by_cases hE : a = x ∧ b = y ∧ c = z
  · simp (config := { maxDischargeDepth := 80 }) only [hE, and_self, decide_true, if_true, evCode, evReg, evL, wantedV, evOp, argOf, cp, binV, intBin, putF, rd_setF, Option.map_some, Option.bind_some, if_true, Bool.true_or, decide_true, toB, takeS_pf, takeS_c, if_false, Pf.p, Pf.lp, Pf.pt, Pf.cl, Pf.nv, List.all_cons, List.all_nil, Bool.and_true, constV, constCell, nf1, ld, getCells, List.length_cons, List.length_nil, Nat.reduceEqDiff, reduceIte, Nat.reduceAdd, Nat.reduceLeDiff, List.take_succ_cons, List.take_zero, List.drop_zero, ofCells, mkAgg, mapO, V.isP, Bool.false_or, beq_self_eq_true, Bool.false_eq_true, cpL, vc_agg, vc_pagg, vc_i, PV.cells, List.map_cons, List.map_nil, Nat.zero_add, List.getElem?_cons_zero, List.getElem?_cons_succ, ↓SL.cells, ↓SL.vcells, ↓SL.cellOk, u74, z93, a93, eq93, h0, h3, h7, h8, hp, hm, hm0, hix, hlt']
    refine ⟨_, rfl, ?_, fun _ => ?_, fun h => absurd trivial h⟩
    · simp (config := { maxDischargeDepth := 80 }) only [evCode, evReg, evL, wantedV, evOp, argOf, cp, binV, intBin, putF, rd_setF, Option.map_some, Option.bind_some, if_true, Bool.true_or, decide_true, toB, takeS_pf, takeS_c, if_false, Pf.p, Pf.lp, Pf.pt, Pf.cl, Pf.nv, List.all_cons, List.all_nil, Bool.and_true, constV, constCell, nf1, ld, getCells, List.length_cons, List.length_nil, Nat.reduceEqDiff, reduceIte, Nat.reduceAdd, Nat.reduceLeDiff, List.take_succ_cons, List.take_zero, List.drop_zero, ofCells, mkAgg, mapO, V.isP, Bool.false_or, beq_self_eq_true, Bool.false_eq_true, cpL, vc_agg, vc_pagg, vc_i, PV.cells, List.map_cons, List.map_nil, Nat.zero_add, List.getElem?_cons_zero, List.getElem?_cons_succ, ↓SL.cells, ↓SL.vcells, ↓SL.cellOk, u74, z93, a93, eq93, h0, h3, h7, h8, hp, hm, hm0, hix, hlt']
    · simp (config := { maxDischargeDepth := 80 }) only [evCode, evReg, evL, wantedV, evOp, argOf, cp, binV, intBin, putF, rd_setF, Option.map_some, Option.bind_some, if_true, Bool.true_or, decide_true, toB, takeS_pf, takeS_c, if_false, Pf.p, Pf.lp, Pf.pt, Pf.cl, Pf.nv, List.all_cons, List.all_nil, Bool.and_true, constV, constCell, nf1, ld, getCells, List.length_cons, List.length_nil, Nat.reduceEqDiff, reduceIte, Nat.reduceAdd, Nat.reduceLeDiff, List.take_succ_cons, List.take_zero, List.drop_zero, ofCells, mkAgg, mapO, V.isP, Bool.false_or, beq_self_eq_true, Bool.false_eq_true, cpL, vc_agg, vc_pagg, vc_i, PV.cells, List.map_cons, List.map_nil, Nat.zero_add, List.getElem?_cons_zero, List.getElem?_cons_succ, ↓SL.cells, ↓SL.vcells, ↓SL.cellOk, u74, z93, a93, eq93, h0, h3, h7, h8, hp, hm, hm0, hix, hlt']
  · simp (config := { maxDischargeDepth := 80 }) only [hE, decide_false, if_false, evCode, evReg, evL, wantedV, evOp, argOf, cp, binV, intBin, putF, rd_setF, Option.map_some, Option.bind_some, if_true, Bool.true_or, decide_true, toB, takeS_pf, takeS_c, if_false, Pf.p, Pf.lp, Pf.pt, Pf.cl, Pf.nv, List.all_cons, List.all_nil, Bool.and_true, constV, constCell, nf1, ld, getCells, List.length_cons, List.length_nil, Nat.reduceEqDiff, reduceIte, Nat.reduceAdd, Nat.reduceLeDiff, List.take_succ_cons, List.take_zero, List.drop_zero, ofCells, mkAgg, mapO, V.isP, Bool.false_or, beq_self_eq_true, Bool.false_eq_true, cpL, vc_agg, vc_pagg, vc_i, PV.cells, List.map_cons, List.map_nil, Nat.zero_add, List.getElem?_cons_zero, List.getElem?_cons_succ, ↓SL.cells, ↓SL.vcells, ↓SL.cellOk, u74, z93, a93, eq93, h0, h3, h7, h8, hp, hm, hm0, hix, hlt']
    refine ⟨_, rfl, ?_, fun h => h.elim, fun _ => ?_⟩
    · simp (config := { maxDischargeDepth := 80 }) only [evCode, evReg, evL, wantedV, evOp, argOf, cp, binV, intBin, putF, rd_setF, Option.map_some, Option.bind_some, if_true, Bool.true_or, decide_true, toB, takeS_pf, takeS_c, if_false, Pf.p, Pf.lp, Pf.pt, Pf.cl, Pf.nv, List.all_cons, List.all_nil, Bool.and_true, constV, constCell, nf1, ld, getCells, List.length_cons, List.length_nil, Nat.reduceEqDiff, reduceIte, Nat.reduceAdd, Nat.reduceLeDiff, List.take_succ_cons, List.take_zero, List.drop_zero, ofCells, mkAgg, mapO, V.isP, Bool.false_or, beq_self_eq_true, Bool.false_eq_true, cpL, vc_agg, vc_pagg, vc_i, PV.cells, List.map_cons, List.map_nil, Nat.zero_add, List.getElem?_cons_zero, List.getElem?_cons_succ, ↓SL.cells, ↓SL.vcells, ↓SL.cellOk, u74, z93, a93, eq93, h0, h3, h7, h8, hp, hm, hm0, hix, hlt']
    · simp (config := { maxDischargeDepth := 80 }) only [evCode, evReg, evL, wantedV, evOp, argOf, cp, binV, intBin, putF, rd_setF, Option.map_some, Option.bind_some, if_true, Bool.true_or, decide_true, toB, takeS_pf, takeS_c, if_false, Pf.p, Pf.lp, Pf.pt, Pf.cl, Pf.nv, List.all_cons, List.all_nil, Bool.and_true, constV, constCell, nf1, ld, getCells, List.length_cons, List.length_nil, Nat.reduceEqDiff, reduceIte, Nat.reduceAdd, Nat.reduceLeDiff, List.take_succ_cons, List.take_zero, List.drop_zero, ofCells, mkAgg, mapO, V.isP, Bool.false_or, beq_self_eq_true, Bool.false_eq_true, cpL, vc_agg, vc_pagg, vc_i, PV.cells, List.map_cons, List.map_nil, Nat.zero_add, List.getElem?_cons_zero, List.getElem?_cons_succ, ↓SL.cells, ↓SL.vcells, ↓SL.cellOk, u74, z93, a93, eq93, h0, h3, h7, h8, hp, hm, hm0, hix, hlt', hw, and_self]

set_option maxRecDepth 100000 in
theorem exit252 (C : Handler) (L : LHandler) (K : Ctx) (fr : Fr) (m : Mem) (n : Nat) (hp : Pf fr) (h7 : rd fr 7 = .p (.i .i64 n)) (h8 : rd fr 8 = .p (.i .i64 n)) :
    ∃ fr', evCode env1 C L K 252 lp252 ⟨fr, m⟩ = some (.ext 0, ⟨fr', m⟩) ∧ Pf fr' := by
  have hn : ¬ ((n : Int) < (n : Int)) := by omega
  unfold lp252
  simp (config := { maxDischargeDepth := 80 }) only [Tryz.f252, evCode, evCode, evReg, evL, wantedV, evOp, argOf, cp, binV, intBin, putF, rd_setF, Option.map_some, Option.bind_some, if_true, Bool.true_or, decide_true, toB, takeS_pf, takeS_c, if_false, Pf.p, Pf.lp, Pf.pt, Pf.cl, Pf.nv, List.all_cons, List.all_nil, Bool.and_true, constV, constCell, nf1, ld, getCells, List.length_cons, List.length_nil, Nat.reduceEqDiff, reduceIte, Nat.reduceAdd, Nat.reduceLeDiff, List.take_succ_cons, List.take_zero, List.drop_zero, ofCells, mkAgg, mapO, V.isP, Bool.false_or, beq_self_eq_true, Bool.false_eq_true, cpL, vc_agg, vc_pagg, vc_i, PV.cells, List.map_cons, List.map_nil, Nat.zero_add, List.getElem?_cons_zero, List.getElem?_cons_succ, ↓SL.cells, ↓SL.vcells, ↓SL.cellOk, h7, h8, hp, hn, decide_false]
  exact ⟨_, rfl, by simp (config := { maxDischargeDepth := 80 }) only [evCode, evReg, evL, wantedV, evOp, argOf, cp, binV, intBin, putF, rd_setF, Option.map_some, Option.bind_some, if_true, Bool.true_or, decide_true, toB, takeS_pf, takeS_c, if_false, Pf.p, Pf.lp, Pf.pt, Pf.cl, Pf.nv, List.all_cons, List.all_nil, Bool.and_true, constV, constCell, nf1, ld, getCells, List.length_cons, List.length_nil, Nat.reduceEqDiff, reduceIte, Nat.reduceAdd, Nat.reduceLeDiff, List.take_succ_cons, List.take_zero, List.drop_zero, ofCells, mkAgg, mapO, V.isP, Bool.false_or, beq_self_eq_true, Bool.false_eq_true, cpL, vc_agg, vc_pagg, vc_i, PV.cells, List.map_cons, List.map_nil, Nat.zero_add, List.getElem?_cons_zero, List.getElem?_cons_succ, ↓SL.cells, ↓SL.vcells, ↓SL.cellOk, hp]⟩

theorem loop252 (es : SL) (a b c : Int) (hes : ∀ e ∈ es.l, ∃ x y z, e = t3 x y z) (hb : es.l.length < 2 ^ 40) (m : Mem) (hm : Pm m) (hm0 : m.lm = [[.p (.i .i64 a), .p (.i .i64 b), .p (.i .i64 c)]]) : ∀ (k i : Nat) (fr : Fr) (K : Ctx) (d : Nat), i + k = es.l.length → k + 1 ≤ d →
    Pf fr → rd fr 0 = .p (es.v) → rd fr 3 = .lptr 0 0 → rd fr 7 = .p (.i .i64 es.l.length) → rd fr 8 = .p (.i .i64 i) →
    ∃ ex fr', (hand env1 d).2 K 252 lp252 ⟨fr, m⟩ = some (ex, ⟨fr', m⟩) ∧ Pf fr' ∧ ((ex = .ret ∧ t3 a b c ∈ es.l ∧ ∃ n : Nat, rd fr' 4 = .p (.i .i64 n)) ∨ (ex = .ext 0 ∧ t3 a b c ∉ es.l.drop i)) := by
  intro k
  induction k with
  | zero =>
    intro i fr K d hik hd hp h0 h3 h7 h8
    obtain ⟨d, rfl⟩ : ∃ d', d = d' + 1 := ⟨d - 1, by omega⟩
    have hi : i = es.l.length := by omega
    subst hi
    have hv9 : 9 ≤ env1.nvs 252 := Nat.le_of_ble_eq_true (by kernel_rfl)
    have hmk : ∀ t, t < 9 → rd (mask (env1.nvs 252) fr) t = rd fr t := fun t ht => rd_mask_lt fr (by omega)
    obtain ⟨fr', e, hp'⟩ := exit252 (hand env1 d).1 (hand env1 d).2 ⟨K.ro, m.h.length⟩ (mask (env1.nvs 252) fr) m es.l.length (hp.mask _) (by rw [hmk 7 (by omega)]; exact h7) (by rw [hmk 8 (by omega)]; exact h8)
    refine ⟨.ext 0, fr', ?_, hp', .inr ⟨rfl, by simp⟩⟩
    simp only [hand]
    exact loop_stop (by kernel_rfl) e (by intro h; cases h)
  | succ k ih =>
    intro i fr K d hik hd hp h0 h3 h7 h8
    obtain ⟨d, rfl⟩ : ∃ d', d = d' + 1 := ⟨d - 1, by omega⟩
    have hlt : i < es.l.length := by omega
    obtain ⟨x, y, z, he⟩ := hes es.l[i] (by simp)
    have hi : es.l[i]? = some (t3 x y z) := by rw [List.getElem?_eq_getElem hlt, he]
    have hv9 : 9 ≤ env1.nvs 252 := Nat.le_of_ble_eq_true (by kernel_rfl)
    have hmk : ∀ t, t < 9 → rd (mask (env1.nvs 252) fr) t = rd fr t := fun t ht => rd_mask_lt fr (by omega)
    obtain ⟨fr', e, hp', q1, q2⟩ := round252 (hand env1 d).1 (hand env1 d).2 ⟨K.ro, m.h.length⟩ (mask (env1.nvs 252) fr) m es i a b c x y z (hp.mask _) hm (by rw [hmk 0 (by omega)]; exact h0) (by rw [hmk 3 (by omega)]; exact h3) (by rw [hmk 7 (by omega)]; exact h7) (by rw [hmk 8 (by omega)]; exact h8) (by rw [hm0]; rfl) hi hb
    have hdrop : es.l.drop i = t3 x y z :: es.l.drop (i + 1) := by rw [List.drop_eq_getElem_cons hlt, he]
    by_cases hE : a = x ∧ b = y ∧ c = z
    · rw [if_pos hE] at e
      refine ⟨.ret, fr', ?_, hp', .inl ⟨rfl, ?_, i, q1 hE⟩⟩
      · simp only [hand]
        exact loop_stop (by kernel_rfl) e (by intro h; cases h)
      · have : t3 a b c = es.l[i] := by rw [he]; simp only [t3]; simp [hE]
        rw [this]; simp
    · rw [if_neg hE] at e
      obtain ⟨r0, r3, r7, r8⟩ := q2 hE
      have hl : m.lm.length = 1 := by rw [hm0]; rfl
      have hd8 : ∀ t v, rd fr' t = v → rb m.h.length v = true → lb m.lm.length v = true → rd (dropTo m.lm.length m.h.length ⟨fr', m⟩).fr t = v := fun t v h1 h2 h3 => by rw [rd_drop, h1]; unfold clrR; rw [h2, h3]; rfl
      obtain ⟨ex, fr2, e2, hp2, hq⟩ := ih (i + 1) (dropTo m.lm.length m.h.length ⟨fr', m⟩).fr K d (by omega) (by omega) (hp'.drop _ _ _) (hd8 0 _ r0 rfl rfl) (hd8 3 _ r3 rfl (by rw [hl]; rfl)) (hd8 7 _ r7 rfl rfl) (hd8 8 _ r8 rfl rfl)
      refine ⟨ex, fr2, ?_, hp2, hq.imp id fun ⟨h1, h2⟩ => ⟨h1, ?_⟩⟩
      · have := loop_next (E := env1) (C := (hand env1 d).1) (L := (hand env1 d).2) (K := K) (by kernel_rfl) (fun cs hcs => by rw [hm0] at hcs; simp at hcs; subst hcs; exact ⟨[.i .i64 a, .i .i64 b, .i .i64 c], rfl⟩) e
        simp only [hand]
        rw [this]; exact e2
      · rw [hdrop]
        intro h
        rcases List.mem_cons.1 h with h | h
        · exact hE (by simpa [t3] using h)
        · exact h2 h

noncomputable def bd252 : Code := match Tryz.f252.body with | some c => c | none => .skip

theorem esc252 : env1.esc 252 3 = false := by kernel_rfl

theorem len74_252 (h : Heap) (es : SL) : lenB env1.Q h 74 (.p (es.v)) = some (.p (.i .i64 es.l.length)) := by obtain ⟨l, b⟩ := es; cases b <;> cases l <;> kernel_rfl

set_option maxRecDepth 100000 in
theorem run252 (es : SL) (a b c : Int) (hes : ∀ e ∈ es.l, ∃ x y z, e = t3 x y z) (hb : es.l.length < 2 ^ 40) (h : Heap) (hh : Pm ⟨[], h⟩) (K : Ctx) (d : Nat) (hd : es.l.length + 2 ≤ d) :
    ∃ n : Int, (hand env1 d).1 K 252 [.p (es.v), .p (t3 a b c)] h = some (.p (.i .i64 n), h) ∧ ((t3 a b c ∈ es.l ∧ 0 ≤ n) ∨ (t3 a b c ∉ es.l ∧ n = -1)) := by
  obtain ⟨d, rfl⟩ : ∃ d', d = d' + 1 := ⟨d - 1, by omega⟩
  show ∃ n : Int, (hand env1 (d + 1)).1 K 252 [.p (es.v), .p (.agg [.i .i64 a, .i .i64 b, .i .i64 c])] h = some (.p (.i .i64 n), h) ∧ ((t3 a b c ∈ es.l ∧ 0 ≤ n) ∨ (t3 a b c ∉ es.l ∧ n = -1))
  have hst : Pf (start [.p (es.v), .p (.agg [.i .i64 a, .i .i64 b, .i .i64 c])]) := Pf.start fun x hx => by
    simp only [List.mem_cons, List.mem_nil_iff, or_false] at hx
    rcases hx with rfl | rfl <;> rfl
  have hm1 : Pm ⟨[[.p (.i .i64 a), .p (.i .i64 b), .p (.i .i64 c)]], h⟩ := ⟨(fun cs hc => by simp at hc; subst hc; rfl), hh.h⟩
  generalize hfr : start [.p (es.v), .p (.agg [.i .i64 a, .i .i64 b, .i .i64 c])] = fr at hst
  have g0 : rd fr 0 = .p (es.v) := by rw [← hfr, rd_start]; rfl
  have g1 : rd fr 1 = .p (.agg [.i .i64 a, .i .i64 b, .i .i64 c]) := by rw [← hfr, rd_start]; rfl
  obtain ⟨ex, fr', hL, hp', hq⟩ := loop252 es a b c hes hb ⟨[[.p (.i .i64 a), .p (.i .i64 b), .p (.i .i64 c)]], h⟩ hm1 rfl es.l.length 0
    (setF (setF (setF (setF (setF fr 3 (.lptr 0 0)) 4 (.p (.i .i64 0))) 6 (.p (es.v))) 7 (.p (.i .i64 es.l.length))) 8 (.p (.i .i64 0))) ⟨h.length, h.length⟩ d (by omega) (by omega)
    (hst.lp.p.p.p.p) (by simp (config := { maxDischargeDepth := 80 }) only [evCode, evReg, evL, wantedV, evOp, argOf, cp, binV, intBin, putF, rd_setF, Option.map_some, Option.bind_some, if_true, Bool.true_or, decide_true, toB, takeS_pf, takeS_c, if_false, Pf.p, Pf.lp, Pf.pt, Pf.cl, Pf.nv, List.all_cons, List.all_nil, Bool.and_true, constV, constCell, nf1, ld, getCells, List.length_cons, List.length_nil, Nat.reduceEqDiff, reduceIte, Nat.reduceAdd, Nat.reduceLeDiff, List.take_succ_cons, List.take_zero, List.drop_zero, ofCells, mkAgg, mapO, V.isP, Bool.false_or, beq_self_eq_true, Bool.false_eq_true, cpL, vc_agg, vc_pagg, vc_i, PV.cells, List.map_cons, List.map_nil, Nat.zero_add, List.getElem?_cons_zero, List.getElem?_cons_succ, ↓SL.cells, ↓SL.vcells, ↓SL.cellOk, g0]) (by simp (config := { maxDischargeDepth := 80 }) only [evCode, evReg, evL, wantedV, evOp, argOf, cp, binV, intBin, putF, rd_setF, Option.map_some, Option.bind_some, if_true, Bool.true_or, decide_true, toB, takeS_pf, takeS_c, if_false, Pf.p, Pf.lp, Pf.pt, Pf.cl, Pf.nv, List.all_cons, List.all_nil, Bool.and_true, constV, constCell, nf1, ld, getCells, List.length_cons, List.length_nil, Nat.reduceEqDiff, reduceIte, Nat.reduceAdd, Nat.reduceLeDiff, List.take_succ_cons, List.take_zero, List.drop_zero, ofCells, mkAgg, mapO, V.isP, Bool.false_or, beq_self_eq_true, Bool.false_eq_true, cpL, vc_agg, vc_pagg, vc_i, PV.cells, List.map_cons, List.map_nil, Nat.zero_add, List.getElem?_cons_zero, List.getElem?_cons_succ, ↓SL.cells, ↓SL.vcells, ↓SL.cellOk]) (by simp (config := { maxDischargeDepth := 80 }) only [evCode, evReg, evL, wantedV, evOp, argOf, cp, binV, intBin, putF, rd_setF, Option.map_some, Option.bind_some, if_true, Bool.true_or, decide_true, toB, takeS_pf, takeS_c, if_false, Pf.p, Pf.lp, Pf.pt, Pf.cl, Pf.nv, List.all_cons, List.all_nil, Bool.and_true, constV, constCell, nf1, ld, getCells, List.length_cons, List.length_nil, Nat.reduceEqDiff, reduceIte, Nat.reduceAdd, Nat.reduceLeDiff, List.take_succ_cons, List.take_zero, List.drop_zero, ofCells, mkAgg, mapO, V.isP, Bool.false_or, beq_self_eq_true, Bool.false_eq_true, cpL, vc_agg, vc_pagg, vc_i, PV.cells, List.map_cons, List.map_nil, Nat.zero_add, List.getElem?_cons_zero, List.getElem?_cons_succ, ↓SL.cells, ↓SL.vcells, ↓SL.cellOk]) (by simp (config := { maxDischargeDepth := 80 }) only [evCode, evReg, evL, wantedV, evOp, argOf, cp, binV, intBin, putF, rd_setF, Option.map_some, Option.bind_some, if_true, Bool.true_or, decide_true, toB, takeS_pf, takeS_c, if_false, Pf.p, Pf.lp, Pf.pt, Pf.cl, Pf.nv, List.all_cons, List.all_nil, Bool.and_true, constV, constCell, nf1, ld, getCells, List.length_cons, List.length_nil, Nat.reduceEqDiff, reduceIte, Nat.reduceAdd, Nat.reduceLeDiff, List.take_succ_cons, List.take_zero, List.drop_zero, ofCells, mkAgg, mapO, V.isP, Bool.false_or, beq_self_eq_true, Bool.false_eq_true, cpL, vc_agg, vc_pagg, vc_i, PV.cells, List.map_cons, List.map_nil, Nat.zero_add, List.getElem?_cons_zero, List.getElem?_cons_succ, ↓SL.cells, ↓SL.vcells, ↓SL.cellOk]; rfl)
  simp (config := { maxDischargeDepth := 80 }) only [lp252, Tryz.f252] at hL
  rw [hand_fn (by kernel_rfl) (show env1.Q.fn 252 = some Tryz.f252 by kernel_rfl)]
  have fin : ∀ e' fr2, evCode env1 (hand env1 d).1 (hand env1 d).2 ⟨h.length, h.length⟩ 252 bd252 ⟨fr, ⟨[], h⟩⟩ = some (e', ⟨fr2, ⟨[[.p (.i .i64 a), .p (.i .i64 b), .p (.i .i64 c)]], h⟩⟩) → (e' = .nrm ∨ e' = .ret) → ∀ n : Int, rd fr2 4 = .p (.i .i64 n) →
      evBody env1 (hand env1 d).1 (hand env1 d).2 K 252 Tryz.f252 [.p (es.v), .p (.agg [.i .i64 a, .i .i64 b, .i .i64 c])] h = some (.p (.i .i64 n), h) := fun e' fr2 he hx n h4 =>
    body2 (fn := Tryz.f252) (code := bd252) rfl (by kernel_rfl) rfl (by show (2 : Nat) ≤ Tryz.f252.ntmps; decide) (by rw [hfr]; exact he) hx h4
  rcases hq with ⟨rfl, hin, n, h4⟩ | ⟨rfl, hout⟩
  · refine ⟨n, fin .ret fr' ?_ (.inr rfl) n h4, .inl ⟨hin, by omega⟩⟩
    simp (config := { maxDischargeDepth := 80 }) only [bd252, Tryz.f252, evCode, evCode, evReg, evL, wantedV, evOp, argOf, cp, binV, intBin, putF, rd_setF, Option.map_some, Option.bind_some, if_true, Bool.true_or, decide_true, toB, takeS_pf, takeS_c, if_false, Pf.p, Pf.lp, Pf.pt, Pf.cl, Pf.nv, List.all_cons, List.all_nil, Bool.and_true, constV, constCell, nf1, ld, getCells, List.length_cons, List.length_nil, Nat.reduceEqDiff, reduceIte, Nat.reduceAdd, Nat.reduceLeDiff, List.take_succ_cons, List.take_zero, List.drop_zero, ofCells, mkAgg, mapO, V.isP, Bool.false_or, beq_self_eq_true, Bool.false_eq_true, cpL, vc_agg, vc_pagg, vc_i, PV.cells, List.map_cons, List.map_nil, Nat.zero_add, List.getElem?_cons_zero, List.getElem?_cons_succ, ↓SL.cells, ↓SL.vcells, ↓SL.cellOk, evCall, evBuiltin, len74_252, newVarV, esc252, V.cellOk, g0, g1, hst, hh, hm1, z93, u74, Option.getD_some, List.nil_append, and_self, Bool.or_self, hL]
  · refine ⟨-1, fin .ret (setF fr' 4 (.p (.i .i64 (-1)))) ?_ (.inr rfl) (-1) (by simp (config := { maxDischargeDepth := 80 }) only [evCode, evReg, evL, wantedV, evOp, argOf, cp, binV, intBin, putF, rd_setF, Option.map_some, Option.bind_some, if_true, Bool.true_or, decide_true, toB, takeS_pf, takeS_c, if_false, Pf.p, Pf.lp, Pf.pt, Pf.cl, Pf.nv, List.all_cons, List.all_nil, Bool.and_true, constV, constCell, nf1, ld, getCells, List.length_cons, List.length_nil, Nat.reduceEqDiff, reduceIte, Nat.reduceAdd, Nat.reduceLeDiff, List.take_succ_cons, List.take_zero, List.drop_zero, ofCells, mkAgg, mapO, V.isP, Bool.false_or, beq_self_eq_true, Bool.false_eq_true, cpL, vc_agg, vc_pagg, vc_i, PV.cells, List.map_cons, List.map_nil, Nat.zero_add, List.getElem?_cons_zero, List.getElem?_cons_succ, ↓SL.cells, ↓SL.vcells, ↓SL.cellOk]), .inr ⟨by simpa using hout, rfl⟩⟩
    simp (config := { maxDischargeDepth := 80 }) only [bd252, Tryz.f252, evCode, evCode, evReg, evL, wantedV, evOp, argOf, cp, binV, intBin, putF, rd_setF, Option.map_some, Option.bind_some, if_true, Bool.true_or, decide_true, toB, takeS_pf, takeS_c, if_false, Pf.p, Pf.lp, Pf.pt, Pf.cl, Pf.nv, List.all_cons, List.all_nil, Bool.and_true, constV, constCell, nf1, ld, getCells, List.length_cons, List.length_nil, Nat.reduceEqDiff, reduceIte, Nat.reduceAdd, Nat.reduceLeDiff, List.take_succ_cons, List.take_zero, List.drop_zero, ofCells, mkAgg, mapO, V.isP, Bool.false_or, beq_self_eq_true, Bool.false_eq_true, cpL, vc_agg, vc_pagg, vc_i, PV.cells, List.map_cons, List.map_nil, Nat.zero_add, List.getElem?_cons_zero, List.getElem?_cons_succ, ↓SL.cells, ↓SL.vcells, ↓SL.cellOk, evCall, evBuiltin, len74_252, newVarV, esc252, V.cellOk, g0, g1, hst, hh, hm1, z93, u74, Option.getD_some, List.nil_append, and_self, Bool.or_self, hL]

theorem ixa254 {h : Heap} {es : SL} {i : Nat} {x y : Int} (hi : es.l[i]? = some (t2 x y)) : ixAddr env1.Q h 75 (.p (es.v)) (.p (.i .i64 i)) = some (.p (.ref [.i .i64 x, .i .i64 y] 0)) := by
  have hlt := lt_of_get hi
  have : natIx (.p (.i .i64 i)) es.l.length = some i := by
    unfold natIx toI
    simp [hlt]
  rw [SL.v_of hi]
  simp only [ixAddr, u75, z193, Option.bind_some, this, hi]
  rfl

noncomputable def lp254 : Code := match Tryz.f254.body with | some (.seq _ (.seq (.seq _ (.block _ (.loop c))) _)) => c | _ => .skip

set_option maxRecDepth 100000 in
theorem round254 (C : Handler) (L : LHandler) (K : Ctx) (fr : Fr) (m : Mem) (es : SL) (i : Nat) (a b x y : Int) (hp : Pf fr) (hm : Pm m) (h0 : rd fr 0 = .p (es.v)) (h3 : rd fr 3 = .lptr 0 0) (h7 : rd fr 7 = .p (.i .i64 es.l.length)) (h8 : rd fr 8 = .p (.i .i64 i))
    (hm0 : m.lm[0]? = some [.p (.i .i64 a), .p (.i .i64 b)]) (hi : es.l[i]? = some (t2 x y)) (hb : es.l.length < 2 ^ 40) :
    ∃ fr', evCode env1 C L K 254 lp254 ⟨fr, m⟩ = some (if a = x ∧ b = y then .ret else .nrm, ⟨fr', m⟩) ∧ Pf fr' ∧ ((a = x ∧ b = y) → rd fr' 4 = .p (.i .i64 i)) ∧
      (¬ (a = x ∧ b = y) → rd fr' 0 = .p (es.v) ∧ rd fr' 3 = .lptr 0 0 ∧ rd fr' 7 = .p (.i .i64 es.l.length) ∧ rd fr' 8 = .p (.i .i64 ((i + 1 : Nat) : Int))) := by
  have hlt : i < es.l.length := lt_of_get hi
  have hlt' : (i : Int) < (es.l.length : Int) := by omega
  have hix := ixa254 (h := m.h) hi
  have hw : IntKind.i64.wrap ((i : Int) + 1) = ((i + 1 : Nat) : Int) := by rw [wrap_in (by omega) (by omega)]; omega
  unfold lp254
  simp (config := { maxDischargeDepth := 80 }) only [Tryz.f254, evCode, evCode, evReg, evL, wantedV, evOp, argOf, cp, binV, intBin, putF, rd_setF, Option.map_some, Option.bind_some, if_true, Bool.true_or, decide_true, toB, takeS_pf, takeS_c, if_false, Pf.p, Pf.lp, Pf.pt, Pf.cl, Pf.nv, List.all_cons, List.all_nil, Bool.and_true, constV, constCell, nf1, ld, getCells, List.length_cons, List.length_nil, Nat.reduceEqDiff, reduceIte, Nat.reduceAdd, Nat.reduceLeDiff, List.take_succ_cons, List.take_zero, List.drop_zero, ofCells, mkAgg, mapO, V.isP, Bool.false_or, beq_self_eq_true, Bool.false_eq_true, cpL, vc_agg, vc_pagg, vc_i, PV.cells, List.map_cons, List.map_nil, Nat.zero_add, List.getElem?_cons_zero, List.getElem?_cons_succ, ↓SL.cells, ↓SL.vcells, ↓SL.cellOk, u75, z193, a193, eq193, h0, h3, h7, h8, hp, hm, hm0, hix, hlt']
  rw [evRegD]
  rotate_left
  · rfl
  · kernel_rfl
  simp (config := { maxDischargeDepth := 80 }) only [evCode, evReg, evL, wantedV, evOp, argOf, cp, binV, intBin, putF, rd_setF, Option.map_some, Option.bind_some, if_true, Bool.true_or, decide_true, toB, takeS_pf, takeS_c, if_false, Pf.p, Pf.lp, Pf.pt, Pf.cl, Pf.nv, List.all_cons, List.all_nil, Bool.and_true, constV, constCell, nf1, ld, getCells, List.length_cons, List.length_nil, Nat.reduceEqDiff, reduceIte, Nat.reduceAdd, Nat.reduceLeDiff, List.take_succ_cons, List.take_zero, List.drop_zero, ofCells, mkAgg, mapO, V.isP, Bool.false_or, beq_self_eq_true, Bool.false_eq_true, cpL, vc_agg, vc_pagg, vc_i, PV.cells, List.map_cons, List.map_nil, Nat.zero_add, List.getElem?_cons_zero, List.getElem?_cons_succ, ↓SL.cells, ↓SL.vcells, ↓SL.cellOk, u75, z193, a193, eq193, h0, h3, h7, h8, hp, hm, hm0, hix, hlt']
  by_cases hE : a = x ∧ b = y
  · simp (config := { maxDischargeDepth := 80 }) only [hE, and_self, decide_true, if_true, evCode, evReg, evL, wantedV, evOp, argOf, cp, binV, intBin, putF, rd_setF, Option.map_some, Option.bind_some, if_true, Bool.true_or, decide_true, toB, takeS_pf, takeS_c, if_false, Pf.p, Pf.lp, Pf.pt, Pf.cl, Pf.nv, List.all_cons, List.all_nil, Bool.and_true, constV, constCell, nf1, ld, getCells, List.length_cons, List.length_nil, Nat.reduceEqDiff, reduceIte, Nat.reduceAdd, Nat.reduceLeDiff, List.take_succ_cons, List.take_zero, List.drop_zero, ofCells, mkAgg, mapO, V.isP, Bool.false_or, beq_self_eq_true, Bool.false_eq_true, cpL, vc_agg, vc_pagg, vc_i, PV.cells, List.map_cons, List.map_nil, Nat.zero_add, List.getElem?_cons_zero, List.getElem?_cons_succ, ↓SL.cells, ↓SL.vcells, ↓SL.cellOk, u75, z193, a193, eq193, h0, h3, h7, h8, hp, hm, hm0, hix, hlt']
    refine ⟨_, rfl, ?_, fun _ => ?_, fun h => absurd trivial h⟩
    · simp (config := { maxDischargeDepth := 80 }) only [evCode, evReg, evL, wantedV, evOp, argOf, cp, binV, intBin, putF, rd_setF, Option.map_some, Option.bind_some, if_true, Bool.true_or, decide_true, toB, takeS_pf, takeS_c, if_false, Pf.p, Pf.lp, Pf.pt, Pf.cl, Pf.nv, List.all_cons, List.all_nil, Bool.and_true, constV, constCell, nf1, ld, getCells, List.length_cons, List.length_nil, Nat.reduceEqDiff, reduceIte, Nat.reduceAdd, Nat.reduceLeDiff, List.take_succ_cons, List.take_zero, List.drop_zero, ofCells, mkAgg, mapO, V.isP, Bool.false_or, beq_self_eq_true, Bool.false_eq_true, cpL, vc_agg, vc_pagg, vc_i, PV.cells, List.map_cons, List.map_nil, Nat.zero_add, List.getElem?_cons_zero, List.getElem?_cons_succ, ↓SL.cells, ↓SL.vcells, ↓SL.cellOk, u75, z193, a193, eq193, h0, h3, h7, h8, hp, hm, hm0, hix, hlt']
    · simp (config := { maxDischargeDepth := 80 }) only [evCode, evReg, evL, wantedV, evOp, argOf, cp, binV, intBin, putF, rd_setF, Option.map_some, Option.bind_some, if_true, Bool.true_or, decide_true, toB, takeS_pf, takeS_c, if_false, Pf.p, Pf.lp, Pf.pt, Pf.cl, Pf.nv, List.all_cons, List.all_nil, Bool.and_true, constV, constCell, nf1, ld, getCells, List.length_cons, List.length_nil, Nat.reduceEqDiff, reduceIte, Nat.reduceAdd, Nat.reduceLeDiff, List.take_succ_cons, List.take_zero, List.drop_zero, ofCells, mkAgg, mapO, V.isP, Bool.false_or, beq_self_eq_true, Bool.false_eq_true, cpL, vc_agg, vc_pagg, vc_i, PV.cells, List.map_cons, List.map_nil, Nat.zero_add, List.getElem?_cons_zero, List.getElem?_cons_succ, ↓SL.cells, ↓SL.vcells, ↓SL.cellOk, u75, z193, a193, eq193, h0, h3, h7, h8, hp, hm, hm0, hix, hlt']
  · simp (config := { maxDischargeDepth := 80 }) only [hE, decide_false, if_false, evCode, evReg, evL, wantedV, evOp, argOf, cp, binV, intBin, putF, rd_setF, Option.map_some, Option.bind_some, if_true, Bool.true_or, decide_true, toB, takeS_pf, takeS_c, if_false, Pf.p, Pf.lp, Pf.pt, Pf.cl, Pf.nv, List.all_cons, List.all_nil, Bool.and_true, constV, constCell, nf1, ld, getCells, List.length_cons, List.length_nil, Nat.reduceEqDiff, reduceIte, Nat.reduceAdd, Nat.reduceLeDiff, List.take_succ_cons, List.take_zero, List.drop_zero, ofCells, mkAgg, mapO, V.isP, Bool.false_or, beq_self_eq_true, Bool.false_eq_true, cpL, vc_agg, vc_pagg, vc_i, PV.cells, List.map_cons, List.map_nil, Nat.zero_add, List.getElem?_cons_zero, List.getElem?_cons_succ, ↓SL.cells, ↓SL.vcells, ↓SL.cellOk, u75, z193, a193, eq193, h0, h3, h7, h8, hp, hm, hm0, hix, hlt']
    refine ⟨_, rfl, ?_, fun h => h.elim, fun _ => ?_⟩
    · simp (config := { maxDischargeDepth := 80 }) only [evCode, evReg, evL, wantedV, evOp, argOf, cp, binV, intBin, putF, rd_setF, Option.map_some, Option.bind_some, if_true, Bool.true_or, decide_true, toB, takeS_pf, takeS_c, if_false, Pf.p, Pf.lp, Pf.pt, Pf.cl, Pf.nv, List.all_cons, List.all_nil, Bool.and_true, constV, constCell, nf1, ld, getCells, List.length_cons, List.length_nil, Nat.reduceEqDiff, reduceIte, Nat.reduceAdd, Nat.reduceLeDiff, List.take_succ_cons, List.take_zero, List.drop_zero, ofCells, mkAgg, mapO, V.isP, Bool.false_or, beq_self_eq_true, Bool.false_eq_true, cpL, vc_agg, vc_pagg, vc_i, PV.cells, List.map_cons, List.map_nil, Nat.zero_add, List.getElem?_cons_zero, List.getElem?_cons_succ, ↓SL.cells, ↓SL.vcells, ↓SL.cellOk, u75, z193, a193, eq193, h0, h3, h7, h8, hp, hm, hm0, hix, hlt']
    · simp (config := { maxDischargeDepth := 80 }) only [evCode, evReg, evL, wantedV, evOp, argOf, cp, binV, intBin, putF, rd_setF, Option.map_some, Option.bind_some, if_true, Bool.true_or, decide_true, toB, takeS_pf, takeS_c, if_false, Pf.p, Pf.lp, Pf.pt, Pf.cl, Pf.nv, List.all_cons, List.all_nil, Bool.and_true, constV, constCell, nf1, ld, getCells, List.length_cons, List.length_nil, Nat.reduceEqDiff, reduceIte, Nat.reduceAdd, Nat.reduceLeDiff, List.take_succ_cons, List.take_zero, List.drop_zero, ofCells, mkAgg, mapO, V.isP, Bool.false_or, beq_self_eq_true, Bool.false_eq_true, cpL, vc_agg, vc_pagg, vc_i, PV.cells, List.map_cons, List.map_nil, Nat.zero_add, List.getElem?_cons_zero, List.getElem?_cons_succ, ↓SL.cells, ↓SL.vcells, ↓SL.cellOk, u75, z193, a193, eq193, h0, h3, h7, h8, hp, hm, hm0, hix, hlt', hw, and_self]

set_option maxRecDepth 100000 in
theorem exit254 (C : Handler) (L : LHandler) (K : Ctx) (fr : Fr) (m : Mem) (n : Nat) (hp : Pf fr) (h7 : rd fr 7 = .p (.i .i64 n)) (h8 : rd fr 8 = .p (.i .i64 n)) :
    ∃ fr', evCode env1 C L K 254 lp254 ⟨fr, m⟩ = some (.ext 0, ⟨fr', m⟩) ∧ Pf fr' := by
  have hn : ¬ ((n : Int) < (n : Int)) := by omega
  unfold lp254
  simp (config := { maxDischargeDepth := 80 }) only [Tryz.f254, evCode, evCode, evReg, evL, wantedV, evOp, argOf, cp, binV, intBin, putF, rd_setF, Option.map_some, Option.bind_some, if_true, Bool.true_or, decide_true, toB, takeS_pf, takeS_c, if_false, Pf.p, Pf.lp, Pf.pt, Pf.cl, Pf.nv, List.all_cons, List.all_nil, Bool.and_true, constV, constCell, nf1, ld, getCells, List.length_cons, List.length_nil, Nat.reduceEqDiff, reduceIte, Nat.reduceAdd, Nat.reduceLeDiff, List.take_succ_cons, List.take_zero, List.drop_zero, ofCells, mkAgg, mapO, V.isP, Bool.false_or, beq_self_eq_true, Bool.false_eq_true, cpL, vc_agg, vc_pagg, vc_i, PV.cells, List.map_cons, List.map_nil, Nat.zero_add, List.getElem?_cons_zero, List.getElem?_cons_succ, ↓SL.cells, ↓SL.vcells, ↓SL.cellOk, h7, h8, hp, hn, decide_false]
  exact ⟨_, rfl, by simp (config := { maxDischargeDepth := 80 }) only [evCode, evReg, evL, wantedV, evOp, argOf, cp, binV, intBin, putF, rd_setF, Option.map_some, Option.bind_some, if_true, Bool.true_or, decide_true, toB, takeS_pf, takeS_c, if_false, Pf.p, Pf.lp, Pf.pt, Pf.cl, Pf.nv, List.all_cons, List.all_nil, Bool.and_true, constV, constCell, nf1, ld, getCells, List.length_cons, List.length_nil, Nat.reduceEqDiff, reduceIte, Nat.reduceAdd, Nat.reduceLeDiff, List.take_succ_cons, List.take_zero, List.drop_zero, ofCells, mkAgg, mapO, V.isP, Bool.false_or, beq_self_eq_true, Bool.false_eq_true, cpL, vc_agg, vc_pagg, vc_i, PV.cells, List.map_cons, List.map_nil, Nat.zero_add, List.getElem?_cons_zero, List.getElem?_cons_succ, ↓SL.cells, ↓SL.vcells, ↓SL.cellOk, hp]⟩

theorem loop254 (es : SL) (a b : Int) (hes : ∀ e ∈ es.l, ∃ x y, e = t2 x y) (hb : es.l.length < 2 ^ 40) (m : Mem) (hm : Pm m) (hm0 : m.lm = [[.p (.i .i64 a), .p (.i .i64 b)]]) : ∀ (k i : Nat) (fr : Fr) (K : Ctx) (d : Nat), i + k = es.l.length → k + 1 ≤ d →
    Pf fr → rd fr 0 = .p (es.v) → rd fr 3 = .lptr 0 0 → rd fr 7 = .p (.i .i64 es.l.length) → rd fr 8 = .p (.i .i64 i) →
    ∃ ex fr', (hand env1 d).2 K 254 lp254 ⟨fr, m⟩ = some (ex, ⟨fr', m⟩) ∧ Pf fr' ∧ ((ex = .ret ∧ t2 a b ∈ es.l ∧ ∃ n : Nat, rd fr' 4 = .p (.i .i64 n)) ∨ (ex = .ext 0 ∧ t2 a b ∉ es.l.drop i)) := by
  intro k
  induction k with
  | zero =>
    intro i fr K d hik hd hp h0 h3 h7 h8
    obtain ⟨d, rfl⟩ : ∃ d', d = d' + 1 := ⟨d - 1, by omega⟩
    have hi : i = es.l.length := by omega
    subst hi
    have hv9 : 9 ≤ env1.nvs 254 := Nat.le_of_ble_eq_true (by kernel_rfl)
    have hmk : ∀ t, t < 9 → rd (mask (env1.nvs 254) fr) t = rd fr t := fun t ht => rd_mask_lt fr (by omega)
    obtain ⟨fr', e, hp'⟩ := exit254 (hand env1 d).1 (hand env1 d).2 ⟨K.ro, m.h.length⟩ (mask (env1.nvs 254) fr) m es.l.length (hp.mask _) (by rw [hmk 7 (by omega)]; exact h7) (by rw [hmk 8 (by omega)]; exact h8)
    refine ⟨.ext 0, fr', ?_, hp', .inr ⟨rfl, by simp⟩⟩
    simp only [hand]
    exact loop_stop (by kernel_rfl) e (by intro h; cases h)
  | succ k ih =>
    intro i fr K d hik hd hp h0 h3 h7 h8
    obtain ⟨d, rfl⟩ : ∃ d', d = d' + 1 := ⟨d - 1, by omega⟩
    have hlt : i < es.l.length := by omega
    obtain ⟨x, y, he⟩ := hes es.l[i] (by simp)
    have hi : es.l[i]? = some (t2 x y) := by rw [List.getElem?_eq_getElem hlt, he]
    have hv9 : 9 ≤ env1.nvs 254 := Nat.le_of_ble_eq_true (by kernel_rfl)
    have hmk : ∀ t, t < 9 → rd (mask (env1.nvs 254) fr) t = rd fr t := fun t ht => rd_mask_lt fr (by omega)
    obtain ⟨fr', e, hp', q1, q2⟩ := round254 (hand env1 d).1 (hand env1 d).2 ⟨K.ro, m.h.length⟩ (mask (env1.nvs 254) fr) m es i a b x y (hp.mask _) hm (by rw [hmk 0 (by omega)]; exact h0) (by rw [hmk 3 (by omega)]; exact h3) (by rw [hmk 7 (by omega)]; exact h7) (by rw [hmk 8 (by omega)]; exact h8) (by rw [hm0]; rfl) hi hb
    have hdrop : es.l.drop i = t2 x y :: es.l.drop (i + 1) := by rw [List.drop_eq_getElem_cons hlt, he]
    by_cases hE : a = x ∧ b = y
    · rw [if_pos hE] at e
      refine ⟨.ret, fr', ?_, hp', .inl ⟨rfl, ?_, i, q1 hE⟩⟩
      · simp only [hand]
        exact loop_stop (by kernel_rfl) e (by intro h; cases h)
      · have : t2 a b = es.l[i] := by rw [he]; simp only [t2]; simp [hE]
        rw [this]; simp
    · rw [if_neg hE] at e
      obtain ⟨r0, r3, r7, r8⟩ := q2 hE
      have hl : m.lm.length = 1 := by rw [hm0]; rfl
      have hd8 : ∀ t v, rd fr' t = v → rb m.h.length v = true → lb m.lm.length v = true → rd (dropTo m.lm.length m.h.length ⟨fr', m⟩).fr t = v := fun t v h1 h2 h3 => by rw [rd_drop, h1]; unfold clrR; rw [h2, h3]; rfl
      obtain ⟨ex, fr2, e2, hp2, hq⟩ := ih (i + 1) (dropTo m.lm.length m.h.length ⟨fr', m⟩).fr K d (by omega) (by omega) (hp'.drop _ _ _) (hd8 0 _ r0 rfl rfl) (hd8 3 _ r3 rfl (by rw [hl]; rfl)) (hd8 7 _ r7 rfl rfl) (hd8 8 _ r8 rfl rfl)
      refine ⟨ex, fr2, ?_, hp2, hq.imp id fun ⟨h1, h2⟩ => ⟨h1, ?_⟩⟩
      · have := loop_next (E := env1) (C := (hand env1 d).1) (L := (hand env1 d).2) (K := K) (by kernel_rfl) (fun cs hcs => by rw [hm0] at hcs; simp at hcs; subst hcs; exact ⟨[.i .i64 a, .i .i64 b], rfl⟩) e
        simp only [hand]
        rw [this]; exact e2
      · rw [hdrop]
        intro h
        rcases List.mem_cons.1 h with h | h
        · exact hE (by simpa [t2] using h)
        · exact h2 h

noncomputable def bd254 : Code := match Tryz.f254.body with | some c => c | none => .skip

theorem esc254 : env1.esc 254 3 = false := by kernel_rfl

theorem len75_254 (h : Heap) (es : SL) : lenB env1.Q h 75 (.p (es.v)) = some (.p (.i .i64 es.l.length)) := by obtain ⟨l, b⟩ := es; cases b <;> cases l <;> kernel_rfl

set_option maxRecDepth 100000 in
theorem run254 (es : SL) (a b : Int) (hes : ∀ e ∈ es.l, ∃ x y, e = t2 x y) (hb : es.l.length < 2 ^ 40) (h : Heap) (hh : Pm ⟨[], h⟩) (K : Ctx) (d : Nat) (hd : es.l.length + 2 ≤ d) :
    ∃ n : Int, (hand env1 d).1 K 254 [.p (es.v), .p (t2 a b)] h = some (.p (.i .i64 n), h) ∧ ((t2 a b ∈ es.l ∧ 0 ≤ n) ∨ (t2 a b ∉ es.l ∧ n = -1)) := by
  obtain ⟨d, rfl⟩ : ∃ d', d = d' + 1 := ⟨d - 1, by omega⟩
  show ∃ n : Int, (hand env1 (d + 1)).1 K 254 [.p (es.v), .p (.agg [.i .i64 a, .i .i64 b])] h = some (.p (.i .i64 n), h) ∧ ((t2 a b ∈ es.l ∧ 0 ≤ n) ∨ (t2 a b ∉ es.l ∧ n = -1))
  have hst : Pf (start [.p (es.v), .p (.agg [.i .i64 a, .i .i64 b])]) := Pf.start fun x hx => by
    simp only [List.mem_cons, List.mem_nil_iff, or_false] at hx
    rcases hx with rfl | rfl <;> rfl
  have hm1 : Pm ⟨[[.p (.i .i64 a), .p (.i .i64 b)]], h⟩ := ⟨(fun cs hc => by simp at hc; subst hc; rfl), hh.h⟩
  generalize hfr : start [.p (es.v), .p (.agg [.i .i64 a, .i .i64 b])] = fr at hst
  have g0 : rd fr 0 = .p (es.v) := by rw [← hfr, rd_start]; rfl
  have g1 : rd fr 1 = .p (.agg [.i .i64 a, .i .i64 b]) := by rw [← hfr, rd_start]; rfl
  obtain ⟨ex, fr', hL, hp', hq⟩ := loop254 es a b hes hb ⟨[[.p (.i .i64 a), .p (.i .i64 b)]], h⟩ hm1 rfl es.l.length 0
    (setF (setF (setF (setF (setF fr 3 (.lptr 0 0)) 4 (.p (.i .i64 0))) 6 (.p (es.v))) 7 (.p (.i .i64 es.l.length))) 8 (.p (.i .i64 0))) ⟨h.length, h.length⟩ d (by omega) (by omega)
    (hst.lp.p.p.p.p) (by simp (config := { maxDischargeDepth := 80 }) only [evCode, evReg, evL, wantedV, evOp, argOf, cp, binV, intBin, putF, rd_setF, Option.map_some, Option.bind_some, if_true, Bool.true_or, decide_true, toB, takeS_pf, takeS_c, if_false, Pf.p, Pf.lp, Pf.pt, Pf.cl, Pf.nv, List.all_cons, List.all_nil, Bool.and_true, constV, constCell, nf1, ld, getCells, List.length_cons, List.length_nil, Nat.reduceEqDiff, reduceIte, Nat.reduceAdd, Nat.reduceLeDiff, List.take_succ_cons, List.take_zero, List.drop_zero, ofCells, mkAgg, mapO, V.isP, Bool.false_or, beq_self_eq_true, Bool.false_eq_true, cpL, vc_agg, vc_pagg, vc_i, PV.cells, List.map_cons, List.map_nil, Nat.zero_add, List.getElem?_cons_zero, List.getElem?_cons_succ, ↓SL.cells, ↓SL.vcells, ↓SL.cellOk, g0]) (by simp (config := { maxDischargeDepth := 80 }) only [evCode, evReg, evL, wantedV, evOp, argOf, cp, binV, intBin, putF, rd_setF, Option.map_some, Option.bind_some, if_true, Bool.true_or, decide_true, toB, takeS_pf, takeS_c, if_false, Pf.p, Pf.lp, Pf.pt, Pf.cl, Pf.nv, List.all_cons, List.all_nil, Bool.and_true, constV, constCell, nf1, ld, getCells, List.length_cons, List.length_nil, Nat.reduceEqDiff, reduceIte, Nat.reduceAdd, Nat.reduceLeDiff, List.take_succ_cons, List.take_zero, List.drop_zero, ofCells, mkAgg, mapO, V.isP, Bool.false_or, beq_self_eq_true, Bool.false_eq_true, cpL, vc_agg, vc_pagg, vc_i, PV.cells, List.map_cons, List.map_nil, Nat.zero_add, List.getElem?_cons_zero, List.getElem?_cons_succ, ↓SL.cells, ↓SL.vcells, ↓SL.cellOk]) (by simp (config := { maxDischargeDepth := 80 }) only [evCode, evReg, evL, wantedV, evOp, argOf, cp, binV, intBin, putF, rd_setF, Option.map_some, Option.bind_some, if_true, Bool.true_or, decide_true, toB, takeS_pf, takeS_c, if_false, Pf.p, Pf.lp, Pf.pt, Pf.cl, Pf.nv, List.all_cons, List.all_nil, Bool.and_true, constV, constCell, nf1, ld, getCells, List.length_cons, List.length_nil, Nat.reduceEqDiff, reduceIte, Nat.reduceAdd, Nat.reduceLeDiff, List.take_succ_cons, List.take_zero, List.drop_zero, ofCells, mkAgg, mapO, V.isP, Bool.false_or, beq_self_eq_true, Bool.false_eq_true, cpL, vc_agg, vc_pagg, vc_i, PV.cells, List.map_cons, List.map_nil, Nat.zero_add, List.getElem?_cons_zero, List.getElem?_cons_succ, ↓SL.cells, ↓SL.vcells, ↓SL.cellOk]) (by simp (config := { maxDischargeDepth := 80 }) only [evCode, evReg, evL, wantedV, evOp, argOf, cp, binV, intBin, putF, rd_setF, Option.map_some, Option.bind_some, if_true, Bool.true_or, decide_true, toB, takeS_pf, takeS_c, if_false, Pf.p, Pf.lp, Pf.pt, Pf.cl, Pf.nv, List.all_cons, List.all_nil, Bool.and_true, constV, constCell, nf1, ld, getCells, List.length_cons, List.length_nil, Nat.reduceEqDiff, reduceIte, Nat.reduceAdd, Nat.reduceLeDiff, List.take_succ_cons, List.take_zero, List.drop_zero, ofCells, mkAgg, mapO, V.isP, Bool.false_or, beq_self_eq_true, Bool.false_eq_true, cpL, vc_agg, vc_pagg, vc_i, PV.cells, List.map_cons, List.map_nil, Nat.zero_add, List.getElem?_cons_zero, List.getElem?_cons_succ, ↓SL.cells, ↓SL.vcells, ↓SL.cellOk]; rfl)
  simp (config := { maxDischargeDepth := 80 }) only [lp254, Tryz.f254] at hL
  rw [hand_fn (by kernel_rfl) (show env1.Q.fn 254 = some Tryz.f254 by kernel_rfl)]
  have fin : ∀ e' fr2, evCode env1 (hand env1 d).1 (hand env1 d).2 ⟨h.length, h.length⟩ 254 bd254 ⟨fr, ⟨[], h⟩⟩ = some (e', ⟨fr2, ⟨[[.p (.i .i64 a), .p (.i .i64 b)]], h⟩⟩) → (e' = .nrm ∨ e' = .ret) → ∀ n : Int, rd fr2 4 = .p (.i .i64 n) →
      evBody env1 (hand env1 d).1 (hand env1 d).2 K 254 Tryz.f254 [.p (es.v), .p (.agg [.i .i64 a, .i .i64 b])] h = some (.p (.i .i64 n), h) := fun e' fr2 he hx n h4 =>
    body2 (fn := Tryz.f254) (code := bd254) rfl (by kernel_rfl) rfl (by show (2 : Nat) ≤ Tryz.f254.ntmps; decide) (by rw [hfr]; exact he) hx h4
  rcases hq with ⟨rfl, hin, n, h4⟩ | ⟨rfl, hout⟩
  · refine ⟨n, fin .ret fr' ?_ (.inr rfl) n h4, .inl ⟨hin, by omega⟩⟩
    simp (config := { maxDischargeDepth := 80 }) only [bd254, Tryz.f254, evCode, evCode, evReg, evL, wantedV, evOp, argOf, cp, binV, intBin, putF, rd_setF, Option.map_some, Option.bind_some, if_true, Bool.true_or, decide_true, toB, takeS_pf, takeS_c, if_false, Pf.p, Pf.lp, Pf.pt, Pf.cl, Pf.nv, List.all_cons, List.all_nil, Bool.and_true, constV, constCell, nf1, ld, getCells, List.length_cons, List.length_nil, Nat.reduceEqDiff, reduceIte, Nat.reduceAdd, Nat.reduceLeDiff, List.take_succ_cons, List.take_zero, List.drop_zero, ofCells, mkAgg, mapO, V.isP, Bool.false_or, beq_self_eq_true, Bool.false_eq_true, cpL, vc_agg, vc_pagg, vc_i, PV.cells, List.map_cons, List.map_nil, Nat.zero_add, List.getElem?_cons_zero, List.getElem?_cons_succ, ↓SL.cells, ↓SL.vcells, ↓SL.cellOk, evCall, evBuiltin, len75_254, newVarV, esc254, V.cellOk, g0, g1, hst, hh, hm1, z193, u75, Option.getD_some, List.nil_append, and_self, Bool.or_self, hL]
  · refine ⟨-1, fin .ret (setF fr' 4 (.p (.i .i64 (-1)))) ?_ (.inr rfl) (-1) (by simp (config := { maxDischargeDepth := 80 }) only [evCode, evReg, evL, wantedV, evOp, argOf, cp, binV, intBin, putF, rd_setF, Option.map_some, Option.bind_some, if_true, Bool.true_or, decide_true, toB, takeS_pf, takeS_c, if_false, Pf.p, Pf.lp, Pf.pt, Pf.cl, Pf.nv, List.all_cons, List.all_nil, Bool.and_true, constV, constCell, nf1, ld, getCells, List.length_cons, List.length_nil, Nat.reduceEqDiff, reduceIte, Nat.reduceAdd, Nat.reduceLeDiff, List.take_succ_cons, List.take_zero, List.drop_zero, ofCells, mkAgg, mapO, V.isP, Bool.false_or, beq_self_eq_true, Bool.false_eq_true, cpL, vc_agg, vc_pagg, vc_i, PV.cells, List.map_cons, List.map_nil, Nat.zero_add, List.getElem?_cons_zero, List.getElem?_cons_succ, ↓SL.cells, ↓SL.vcells, ↓SL.cellOk]), .inr ⟨by simpa using hout, rfl⟩⟩
    simp (config := { maxDischargeDepth := 80 }) only [bd254, Tryz.f254, evCode, evCode, evReg, evL, wantedV, evOp, argOf, cp, binV, intBin, putF, rd_setF, Option.map_some, Option.bind_some, if_true, Bool.true_or, decide_true, toB, takeS_pf, takeS_c, if_false, Pf.p, Pf.lp, Pf.pt, Pf.cl, Pf.nv, List.all_cons, List.all_nil, Bool.and_true, constV, constCell, nf1, ld, getCells, List.length_cons, List.length_nil, Nat.reduceEqDiff, reduceIte, Nat.reduceAdd, Nat.reduceLeDiff, List.take_succ_cons, List.take_zero, List.drop_zero, ofCells, mkAgg, mapO, V.isP, Bool.false_or, beq_self_eq_true, Bool.false_eq_true, cpL, vc_agg, vc_pagg, vc_i, PV.cells, List.map_cons, List.map_nil, Nat.zero_add, List.getElem?_cons_zero, List.getElem?_cons_succ, ↓SL.cells, ↓SL.vcells, ↓SL.cellOk, evCall, evBuiltin, len75_254, newVarV, esc254, V.cellOk, g0, g1, hst, hh, hm1, z193, u75, Option.getD_some, List.nil_append, and_self, Bool.or_self, hL]

end Go.Wn

namespace Go.Wn
open Go Go.Proofs

/-! Loops that look for the first one that .. , and what is in a list. -/

theorem loop_find {E : Env} {K : Ctx} {f : Nat} {body : Code} {m : Mem} (hk : E.kl f (firstRegion body) = false) (hmlm : ∀ cs ∈ m.lm, ∃ ps : List PV, cs = ps.map .p) (n d0 x : Nat) (I : Nat → Fr → Prop) (F X : Fr → Prop) (p : Nat → Bool)
    (hr : ∀ d i fr, d0 ≤ d → i < n → I i fr → ∃ fr', (p i = true ∧ evCode E (hand E d).1 (hand E d).2 ⟨K.ro, m.h.length⟩ f body ⟨mask (E.nvs f) fr, m⟩ = some (.ret, ⟨fr', m⟩) ∧ F fr') ∨
      (p i = false ∧ evCode E (hand E d).1 (hand E d).2 ⟨K.ro, m.h.length⟩ f body ⟨mask (E.nvs f) fr, m⟩ = some (.nrm, ⟨fr', m⟩) ∧ I (i + 1) (dropTo m.lm.length m.h.length ⟨fr', m⟩).fr))
    (hx : ∀ d fr, d0 ≤ d → I n fr → ∃ fr', evCode E (hand E d).1 (hand E d).2 ⟨K.ro, m.h.length⟩ f body ⟨mask (E.nvs f) fr, m⟩ = some (.ext x, ⟨fr', m⟩) ∧ X fr') :
    ∀ k i fr d, i + k = n → d0 + k + 1 ≤ d → I i fr → ∃ fr', ((∃ j, i ≤ j ∧ j < n ∧ p j = true) ∧ (hand E d).2 K f body ⟨fr, m⟩ = some (.ret, ⟨fr', m⟩) ∧ F fr') ∨
      ((∀ j, i ≤ j → j < n → p j = false) ∧ (hand E d).2 K f body ⟨fr, m⟩ = some (.ext x, ⟨fr', m⟩) ∧ X fr') := by
  intro k
  induction k with
  | zero =>
    intro i fr d hik hd hi
    obtain ⟨d, rfl⟩ : ∃ d', d = d' + 1 := ⟨d - 1, by omega⟩
    have : i = n := by omega
    subst this
    obtain ⟨fr', e, q⟩ := hx d fr (by omega) hi
    refine ⟨fr', .inr ⟨fun j h1 h2 => absurd h1 (by omega), ?_, q⟩⟩
    simp only [hand]
    exact loop_stop hk e (by intro h; cases h)
  | succ k ih =>
    intro i fr d hik hd hi
    obtain ⟨d, rfl⟩ : ∃ d', d = d' + 1 := ⟨d - 1, by omega⟩
    obtain ⟨fr', h | h⟩ := hr d i fr (by omega) (by omega) hi
    · obtain ⟨hp, e, q⟩ := h
      refine ⟨fr', .inl ⟨⟨i, by omega, by omega, hp⟩, ?_, q⟩⟩
      simp only [hand]
      exact loop_stop hk e (by intro h; cases h)
    · obtain ⟨hp, e, q⟩ := h
      have := loop_next (C := (hand E d).1) (L := (hand E d).2) hk hmlm e
      obtain ⟨fr2, h2⟩ := ih (i + 1) _ d (by omega) (by omega) q
      refine ⟨fr2, ?_⟩
      simp only [hand]
      rw [this]
      rcases h2 with ⟨⟨j, h1, h2, h3⟩, h4, h5⟩ | ⟨h1, h4, h5⟩
      · exact .inl ⟨⟨j, by omega, h2, h3⟩, h4, h5⟩
      · refine .inr ⟨fun j h2 h3 => ?_, h4, h5⟩
        rcases Nat.lt_or_ge i j with h | h
        · exact h1 j (by omega) h3
        · have : j = i := by omega
          subst this; exact hp

theorem nil_lm : ∀ cs ∈ ([] : List (List V)), ∃ ps : List PV, cs = ps.map .p := fun _ h => nomatch h
theorem one_lm (ps : List PV) : ∀ cs ∈ [ps.map V.p], ∃ ps : List PV, cs = ps.map .p := fun cs h => ⟨ps, by simpa using h⟩

/-- slots that stand -/
def RD (fr : Fr) : List (Nat × V) → Prop
  | [] => True
  | p :: l => rd fr p.1 = p.2 ∧ RD fr l

theorem RD.mask {fr : Fr} {n : Nat} : ∀ {l : List (Nat × V)}, RD fr l → l.all (fun p => Nat.ble (p.1 + 1) n) = true → RD (Wn.mask n fr) l
  | [], _, _ => trivial
  | p :: l, h, hn => by
    simp only [List.all_cons, Bool.and_eq_true] at hn
    have := Nat.le_of_ble_eq_true hn.1
    exact ⟨by rw [rd_mask_lt fr (by omega)]; exact h.1, RD.mask h.2 hn.2⟩

theorem RD.drop {fr : Fr} {a b : Nat} {m : Mem} : ∀ {l : List (Nat × V)}, RD fr l → l.all (fun p => rb b p.2 && lb a p.2) = true → RD (dropTo a b ⟨fr, m⟩).fr l
  | [], _, _ => trivial
  | p :: l, h, hn => by
    simp only [List.all_cons, Bool.and_eq_true] at hn
    exact ⟨by rw [rd_drop, h.1]; unfold clrR; rw [hn.1.1, hn.1.2]; rfl, RD.drop h.2 hn.2⟩

noncomputable def inL (l : List PV) (e : PV) : Bool := @decide (e ∈ l) (Classical.propDecidable _)
theorem inL_iff {l : List PV} {e : PV} : inL l e = true ↔ e ∈ l := by unfold inL; exact @decide_eq_true_iff _ (Classical.propDecidable _)
theorem inL_not {l : List PV} {e : PV} : inL l e = false ↔ e ∉ l := by
  rw [← inL_iff]; cases inL l e <;> simp

noncomputable def allL (l m : List PV) : Bool := l.all (inL m)
theorem allL_self (l : List PV) : allL l l = true := by
  unfold allL
  rw [List.all_eq_true]
  exact fun x hx => inL_iff.2 hx
theorem allL_nil (l : List PV) : allL [] l = true := rfl

theorem run252' (es : SL) (e : PV) (he : ∃ x y z, e = t3 x y z) (hes : ∀ e ∈ es.l, ∃ x y z, e = t3 x y z) (hb : es.l.length < 2 ^ 40) (h : Heap) (hh : Pm ⟨[], h⟩) (K : Ctx) (d : Nat) (hd : es.l.length + 2 ≤ d) :
    ∃ n : Int, (hand env1 d).1 K 252 [.p (es.v), .p e] h = some (.p (.i .i64 n), h) ∧ decide ((0 : Int) ≤ n) = inL es.l e := by
  obtain ⟨x, y, z, rfl⟩ := he
  obtain ⟨n, h1, h2⟩ := run252 es x y z hes hb h hh K d hd
  refine ⟨n, h1, ?_⟩
  rcases h2 with ⟨a, b⟩ | ⟨a, b⟩
  · rw [inL_iff.2 a]; simpa using b
  · rw [inL_not.2 a]; subst b; rfl

theorem run254' (es : SL) (e : PV) (he : ∃ x y, e = t2 x y) (hes : ∀ e ∈ es.l, ∃ x y, e = t2 x y) (hb : es.l.length < 2 ^ 40) (h : Heap) (hh : Pm ⟨[], h⟩) (K : Ctx) (d : Nat) (hd : es.l.length + 2 ≤ d) :
    ∃ n : Int, (hand env1 d).1 K 254 [.p (es.v), .p e] h = some (.p (.i .i64 n), h) ∧ decide ((0 : Int) ≤ n) = inL es.l e := by
  obtain ⟨x, y, rfl⟩ := he
  obtain ⟨n, h1, h2⟩ := run254 es x y hes hb h hh K d hd
  refine ⟨n, h1, ?_⟩
  rcases h2 with ⟨a, b⟩ | ⟨a, b⟩
  · rw [inL_iff.2 a]; simpa using b
  · rw [inL_not.2 a]; subst b; rfl

end Go.Wn

namespace Go.Wn
open Go Go.Proofs

/-- the bodies of the loops, in order -/
noncomputable def loopsOf : Code → List Code
  | .seq a b => loopsOf a ++ loopsOf b
  | .block _ c => loopsOf c
  | .loop c => [c]
  | _ => []

theorem wrap_nat {i n : Nat} (h : i < n) (hb : n < 2 ^ 40) : IntKind.i64.wrap ((i : Int) + 1) = ((i + 1 : Nat) : Int) := by rw [wrap_in (by omega) (by omega)]; omega

theorem okb188 : okFn env1.Q 188 = true := by kernel_rfl
theorem tk188 : env1.tk 188 = [] := by kernel_rfl

noncomputable def bd251 : Code := match Tryz.f251.body with | some c => c | none => .skip
noncomputable def lp251_0 : Code := (loopsOf bd251).getD 0 .skip

set_option maxRecDepth 100000 in
theorem round251 (C : Handler) (L : LHandler) (K : Ctx) (fr : Fr) (h : Heap) (es : SL) (i k : Nat) (x y z : Int) (r : Bool) (hi : es.l[i]? = some (t3 x y z)) (hb : es.l.length < 2 ^ 40) (hC : ∀ K, C K 188 [.p (t3 x y z), .ptr k 0] h = some (.p (.b r), h)) (hp : Pf fr) (hm : Pm ⟨[], h⟩) (hR : RD fr [(0, .p (es.v)), (1, .clo (.func 188) [] [.ptr k 0]), (7, .p (.i .i64 es.l.length)), (8, .p (.i .i64 i))]) :
    ∃ fr', evCode env1 C L K 251 lp251_0 ⟨fr, ⟨[], h⟩⟩ = some (if r then .ret else .nrm, ⟨fr', ⟨[], h⟩⟩) ∧ Pf fr' ∧ (r = true → rd fr' 4 = .p (.i .i64 i)) ∧ (r = false → RD fr' [(0, .p (es.v)), (1, .clo (.func 188) [] [.ptr k 0]), (7, .p (.i .i64 es.l.length)), (8, .p (.i .i64 (i + 1 : Nat)))]) := by
  simp only [RD, and_true] at hR
  obtain ⟨h0, h1, h7, h8⟩ := hR
  have hlt : i < es.l.length := lt_of_get hi
  have hlt' : (i : Int) < (es.l.length : Int) := by omega
  have hix := ixa252 (h := h) hi
  have hw := wrap_nat hlt hb
  have hC' := hC; simp only [t3] at hC'
  unfold lp251_0
  simp (config := { maxDischargeDepth := 80 }) only [loopsOf, bd251, Tryz.f251, List.getD_cons_zero, List.getD_cons_succ, List.nil_append, List.cons_append, List.append_nil, evCode, evReg, evL, wantedV, evOp, argOf, cp, binV, intBin, putF, rd_setF, Option.map_some, Option.bind_some, if_true, Bool.true_or, decide_true, toB, takeS_pf, takeS_c, if_false, Pf.p, Pf.lp, Pf.pt, Pf.cl, Pf.nv, List.all_cons, List.all_nil, Bool.and_true, constV, constCell, nf1, ld, getCells, List.length_cons, List.length_nil, Nat.reduceEqDiff, reduceIte, Nat.reduceAdd, Nat.reduceLeDiff, List.take_succ_cons, List.take_zero, List.drop_zero, ofCells, mkAgg, mapO, V.isP, Bool.false_or, beq_self_eq_true, Bool.false_eq_true, cpL, vc_agg, vc_pagg, vc_i, PV.cells, List.map_cons, List.map_nil, Nat.zero_add, List.getElem?_cons_zero, List.getElem?_cons_succ, ↓SL.cells, ↓SL.vcells, ↓SL.cellOk, h0, h1, h7, h8, u74, z93, a93, hix, hlt', evCall, okb188, tk188, hC', lfL, lf, argsOf, List.contains_nil, ite_self, hp, hm]
  cases hE : r
  · simp (config := { maxDischargeDepth := 80 }) only [hE, Bool.not_true, Bool.not_false, if_true, if_false, evCode, evReg, evL, wantedV, evOp, argOf, cp, binV, intBin, putF, rd_setF, Option.map_some, Option.bind_some, if_true, Bool.true_or, decide_true, toB, takeS_pf, takeS_c, if_false, Pf.p, Pf.lp, Pf.pt, Pf.cl, Pf.nv, List.all_cons, List.all_nil, Bool.and_true, constV, constCell, nf1, ld, getCells, List.length_cons, List.length_nil, Nat.reduceEqDiff, reduceIte, Nat.reduceAdd, Nat.reduceLeDiff, List.take_succ_cons, List.take_zero, List.drop_zero, ofCells, mkAgg, mapO, V.isP, Bool.false_or, beq_self_eq_true, Bool.false_eq_true, cpL, vc_agg, vc_pagg, vc_i, PV.cells, List.map_cons, List.map_nil, Nat.zero_add, List.getElem?_cons_zero, List.getElem?_cons_succ, ↓SL.cells, ↓SL.vcells, ↓SL.cellOk, h0, h1, h7, h8, u74, z93, a93, hix, hlt', evCall, okb188, tk188, hC', lfL, lf, argsOf, List.contains_nil, ite_self, hp, hm]
    refine ⟨_, rfl, ?_, fun h => (by cases h), fun _ => ?_⟩
    · simp (config := { maxDischargeDepth := 80 }) only [evCode, evReg, evL, wantedV, evOp, argOf, cp, binV, intBin, putF, rd_setF, Option.map_some, Option.bind_some, if_true, Bool.true_or, decide_true, toB, takeS_pf, takeS_c, if_false, Pf.p, Pf.lp, Pf.pt, Pf.cl, Pf.nv, List.all_cons, List.all_nil, Bool.and_true, constV, constCell, nf1, ld, getCells, List.length_cons, List.length_nil, Nat.reduceEqDiff, reduceIte, Nat.reduceAdd, Nat.reduceLeDiff, List.take_succ_cons, List.take_zero, List.drop_zero, ofCells, mkAgg, mapO, V.isP, Bool.false_or, beq_self_eq_true, Bool.false_eq_true, cpL, vc_agg, vc_pagg, vc_i, PV.cells, List.map_cons, List.map_nil, Nat.zero_add, List.getElem?_cons_zero, List.getElem?_cons_succ, ↓SL.cells, ↓SL.vcells, ↓SL.cellOk, h0, h1, h7, h8, u74, z93, a93, hix, hlt', evCall, okb188, tk188, hC', lfL, lf, argsOf, List.contains_nil, ite_self, hp, hm]
    · simp (config := { maxDischargeDepth := 80 }) only [RD, evCode, evReg, evL, wantedV, evOp, argOf, cp, binV, intBin, putF, rd_setF, Option.map_some, Option.bind_some, if_true, Bool.true_or, decide_true, toB, takeS_pf, takeS_c, if_false, Pf.p, Pf.lp, Pf.pt, Pf.cl, Pf.nv, List.all_cons, List.all_nil, Bool.and_true, constV, constCell, nf1, ld, getCells, List.length_cons, List.length_nil, Nat.reduceEqDiff, reduceIte, Nat.reduceAdd, Nat.reduceLeDiff, List.take_succ_cons, List.take_zero, List.drop_zero, ofCells, mkAgg, mapO, V.isP, Bool.false_or, beq_self_eq_true, Bool.false_eq_true, cpL, vc_agg, vc_pagg, vc_i, PV.cells, List.map_cons, List.map_nil, Nat.zero_add, List.getElem?_cons_zero, List.getElem?_cons_succ, ↓SL.cells, ↓SL.vcells, ↓SL.cellOk, h0, h1, h7, h8, u74, z93, a93, hix, hlt', evCall, okb188, tk188, hC', lfL, lf, argsOf, List.contains_nil, ite_self, hp, hm, hw, and_self]
  · simp (config := { maxDischargeDepth := 80 }) only [hE, Bool.not_true, Bool.not_false, if_true, if_false, evCode, evReg, evL, wantedV, evOp, argOf, cp, binV, intBin, putF, rd_setF, Option.map_some, Option.bind_some, if_true, Bool.true_or, decide_true, toB, takeS_pf, takeS_c, if_false, Pf.p, Pf.lp, Pf.pt, Pf.cl, Pf.nv, List.all_cons, List.all_nil, Bool.and_true, constV, constCell, nf1, ld, getCells, List.length_cons, List.length_nil, Nat.reduceEqDiff, reduceIte, Nat.reduceAdd, Nat.reduceLeDiff, List.take_succ_cons, List.take_zero, List.drop_zero, ofCells, mkAgg, mapO, V.isP, Bool.false_or, beq_self_eq_true, Bool.false_eq_true, cpL, vc_agg, vc_pagg, vc_i, PV.cells, List.map_cons, List.map_nil, Nat.zero_add, List.getElem?_cons_zero, List.getElem?_cons_succ, ↓SL.cells, ↓SL.vcells, ↓SL.cellOk, h0, h1, h7, h8, u74, z93, a93, hix, hlt', evCall, okb188, tk188, hC', lfL, lf, argsOf, List.contains_nil, ite_self, hp, hm]
    refine ⟨_, rfl, ?_, fun _ => ?_, fun h => (by cases h)⟩
    · simp (config := { maxDischargeDepth := 80 }) only [evCode, evReg, evL, wantedV, evOp, argOf, cp, binV, intBin, putF, rd_setF, Option.map_some, Option.bind_some, if_true, Bool.true_or, decide_true, toB, takeS_pf, takeS_c, if_false, Pf.p, Pf.lp, Pf.pt, Pf.cl, Pf.nv, List.all_cons, List.all_nil, Bool.and_true, constV, constCell, nf1, ld, getCells, List.length_cons, List.length_nil, Nat.reduceEqDiff, reduceIte, Nat.reduceAdd, Nat.reduceLeDiff, List.take_succ_cons, List.take_zero, List.drop_zero, ofCells, mkAgg, mapO, V.isP, Bool.false_or, beq_self_eq_true, Bool.false_eq_true, cpL, vc_agg, vc_pagg, vc_i, PV.cells, List.map_cons, List.map_nil, Nat.zero_add, List.getElem?_cons_zero, List.getElem?_cons_succ, ↓SL.cells, ↓SL.vcells, ↓SL.cellOk, h0, h1, h7, h8, u74, z93, a93, hix, hlt', evCall, okb188, tk188, hC', lfL, lf, argsOf, List.contains_nil, ite_self, hp, hm]
    · simp (config := { maxDischargeDepth := 80 }) only [evCode, evReg, evL, wantedV, evOp, argOf, cp, binV, intBin, putF, rd_setF, Option.map_some, Option.bind_some, if_true, Bool.true_or, decide_true, toB, takeS_pf, takeS_c, if_false, Pf.p, Pf.lp, Pf.pt, Pf.cl, Pf.nv, List.all_cons, List.all_nil, Bool.and_true, constV, constCell, nf1, ld, getCells, List.length_cons, List.length_nil, Nat.reduceEqDiff, reduceIte, Nat.reduceAdd, Nat.reduceLeDiff, List.take_succ_cons, List.take_zero, List.drop_zero, ofCells, mkAgg, mapO, V.isP, Bool.false_or, beq_self_eq_true, Bool.false_eq_true, cpL, vc_agg, vc_pagg, vc_i, PV.cells, List.map_cons, List.map_nil, Nat.zero_add, List.getElem?_cons_zero, List.getElem?_cons_succ, ↓SL.cells, ↓SL.vcells, ↓SL.cellOk, h0, h1, h7, h8, u74, z93, a93, hix, hlt', evCall, okb188, tk188, hC', lfL, lf, argsOf, List.contains_nil, ite_self, hp, hm]

set_option maxRecDepth 100000 in
theorem exit251 (C : Handler) (L : LHandler) (K : Ctx) (fr : Fr) (h : Heap) (es : SL) (k : Nat) (hp : Pf fr) (hm : Pm ⟨[], h⟩) (hR : RD fr [(0, .p (es.v)), (1, .clo (.func 188) [] [.ptr k 0]), (7, .p (.i .i64 es.l.length)), (8, .p (.i .i64 es.l.length))]) :
    ∃ fr', evCode env1 C L K 251 lp251_0 ⟨fr, ⟨[], h⟩⟩ = some (.ext 0, ⟨fr', ⟨[], h⟩⟩) ∧ Pf fr' := by
  simp only [RD, and_true] at hR
  obtain ⟨h0, h1, h7, h8⟩ := hR
  have hn : ¬ ((es.l.length : Int) < (es.l.length : Int)) := by omega
  unfold lp251_0
  simp (config := { maxDischargeDepth := 80 }) only [loopsOf, bd251, Tryz.f251, List.getD_cons_zero, List.getD_cons_succ, List.nil_append, List.cons_append, List.append_nil, evCode, evReg, evL, wantedV, evOp, argOf, cp, binV, intBin, putF, rd_setF, Option.map_some, Option.bind_some, if_true, Bool.true_or, decide_true, toB, takeS_pf, takeS_c, if_false, Pf.p, Pf.lp, Pf.pt, Pf.cl, Pf.nv, List.all_cons, List.all_nil, Bool.and_true, constV, constCell, nf1, ld, getCells, List.length_cons, List.length_nil, Nat.reduceEqDiff, reduceIte, Nat.reduceAdd, Nat.reduceLeDiff, List.take_succ_cons, List.take_zero, List.drop_zero, ofCells, mkAgg, mapO, V.isP, Bool.false_or, beq_self_eq_true, Bool.false_eq_true, cpL, vc_agg, vc_pagg, vc_i, PV.cells, List.map_cons, List.map_nil, Nat.zero_add, List.getElem?_cons_zero, List.getElem?_cons_succ, ↓SL.cells, ↓SL.vcells, ↓SL.cellOk, h0, h1, h7, h8, hp, hn, decide_false]
  exact ⟨_, rfl, by simp (config := { maxDischargeDepth := 80 }) only [evCode, evReg, evL, wantedV, evOp, argOf, cp, binV, intBin, putF, rd_setF, Option.map_some, Option.bind_some, if_true, Bool.true_or, decide_true, toB, takeS_pf, takeS_c, if_false, Pf.p, Pf.lp, Pf.pt, Pf.cl, Pf.nv, List.all_cons, List.all_nil, Bool.and_true, constV, constCell, nf1, ld, getCells, List.length_cons, List.length_nil, Nat.reduceEqDiff, reduceIte, Nat.reduceAdd, Nat.reduceLeDiff, List.take_succ_cons, List.take_zero, List.drop_zero, ofCells, mkAgg, mapO, V.isP, Bool.false_or, beq_self_eq_true, Bool.false_eq_true, cpL, vc_agg, vc_pagg, vc_i, PV.cells, List.map_cons, List.map_nil, Nat.zero_add, List.getElem?_cons_zero, List.getElem?_cons_succ, ↓SL.cells, ↓SL.vcells, ↓SL.cellOk, h0, h1, h7, h8, hp]⟩

theorem loop251 (es : SL) (hes : ∀ e ∈ es.l, ∃ x y z, e = t3 x y z) (hb : es.l.length < 2 ^ 40) (h : Heap) (hm : Pm ⟨[], h⟩) (k : Nat) (hk : k < h.length) (r : PV → Bool) (d0 : Nat) (hC : ∀ d K e, d0 ≤ d → e ∈ es.l → (hand env1 d).1 K 188 [.p e, .ptr k 0] h = some (.p (.b (r e)), h)) (K : Ctx) (fr : Fr) (d : Nat) (hd : d0 + es.l.length + 1 ≤ d) (hp : Pf fr) (hR : RD fr [(0, .p (es.v)), (1, .clo (.func 188) [] [.ptr k 0]), (7, .p (.i .i64 es.l.length)), (8, .p (.i .i64 0))]) :
    ∃ fr', (es.l.any r = true ∧ (hand env1 d).2 K 251 lp251_0 ⟨fr, ⟨[], h⟩⟩ = some (.ret, ⟨fr', ⟨[], h⟩⟩) ∧ ∃ n : Nat, rd fr' 4 = .p (.i .i64 n)) ∨ (es.l.any r = false ∧ (hand env1 d).2 K 251 lp251_0 ⟨fr, ⟨[], h⟩⟩ = some (.ext 0, ⟨fr', ⟨[], h⟩⟩) ∧ Pf fr') := by
  have key := loop_find (E := env1) (K := K) (f := 251) (body := lp251_0) (m := ⟨[], h⟩) (by kernel_rfl) nil_lm es.l.length d0 0 (fun i fr => Pf fr ∧ RD fr [(0, .p (es.v)), (1, .clo (.func 188) [] [.ptr k 0]), (7, .p (.i .i64 es.l.length)), (8, .p (.i .i64 i))]) (fun fr => ∃ n : Nat, rd fr 4 = .p (.i .i64 n)) Pf (fun i => (es.l[i]?).any r)
    (fun d i fr hd hi ⟨hp, hR⟩ => by
      obtain ⟨x, y, z, he⟩ := hes es.l[i] (by simp)
      have hi' : es.l[i]? = some (t3 x y z) := by rw [List.getElem?_eq_getElem hi, he]
      have hin : t3 x y z ∈ es.l := List.mem_of_getElem? hi'
      obtain ⟨fr', e, hp', q1, q2⟩ := round251 (hand env1 d).1 (hand env1 d).2 ⟨K.ro, h.length⟩ (mask (env1.nvs 251) fr) h es i k x y z (r (t3 x y z)) hi' hb (fun K => hC d K _ hd hin) (hp.mask _) hm (hR.mask (by kernel_rfl))
      refine ⟨fr', ?_⟩
      simp only [hi', Option.any_some]
      cases hr : r (t3 x y z) with
      | true => rw [hr] at e q1; exact .inl ⟨rfl, e, i, q1 rfl⟩
      | false => rw [hr] at e q2; exact .inr ⟨rfl, e, hp'.drop _ _ _, (q2 rfl).drop (by simp only [List.all_cons, List.all_nil, rb, rbL, lb, lbL, hk, decide_true, Bool.and_self])⟩)
    (fun d fr hd ⟨hp, hR⟩ => exit251 (hand env1 d).1 (hand env1 d).2 ⟨K.ro, h.length⟩ (mask (env1.nvs 251) fr) h es k (hp.mask _) hm (hR.mask (by kernel_rfl)))
  obtain ⟨fr', h1 | h1⟩ := key es.l.length 0 fr d (by omega) (by omega) ⟨hp, hR⟩
  · refine ⟨fr', .inl ⟨?_, h1.2⟩⟩
    obtain ⟨j, _, hj, h2⟩ := h1.1
    rw [List.getElem?_eq_getElem hj] at h2
    exact List.any_eq_true.2 ⟨es.l[j], by simp, h2⟩
  · refine ⟨fr', .inr ⟨?_, h1.2⟩⟩
    rw [List.any_eq_false]
    intro x hx
    obtain ⟨j, hj, rfl⟩ := List.mem_iff_getElem.1 hx
    have := h1.1 j (by omega) hj
    rw [List.getElem?_eq_getElem hj] at this
    simpa using this

theorem len251 (h : Heap) (es : SL) : lenB env1.Q h 74 (.p (es.v)) = some (.p (.i .i64 es.l.length)) := by obtain ⟨l, b⟩ := es; cases b <;> cases l <;> kernel_rfl

set_option maxRecDepth 100000 in
theorem run251 (es : SL) (hes : ∀ e ∈ es.l, ∃ x y z, e = t3 x y z) (hb : es.l.length < 2 ^ 40) (h : Heap) (hm : Pm ⟨[], h⟩) (k : Nat) (hk : k < h.length) (r : PV → Bool) (d0 : Nat) (hC : ∀ d K e, d0 ≤ d → e ∈ es.l → (hand env1 d).1 K 188 [.p e, .ptr k 0] h = some (.p (.b (r e)), h)) (K : Ctx) (d : Nat) (hd : d0 + es.l.length + 2 ≤ d) :
    ∃ n : Int, (hand env1 d).1 K 251 [.p (es.v), .clo (.func 188) [] [.ptr k 0]] h = some (.p (.i .i64 n), h) ∧ decide ((0 : Int) ≤ n) = es.l.any r := by
  obtain ⟨d, rfl⟩ : ∃ d', d = d' + 1 := ⟨d - 1, by omega⟩
  have hst : Pf (start [.p (es.v), .clo (.func 188) [] [.ptr k 0]]) := Pf.start fun x hx => by
    simp only [List.mem_cons, List.mem_nil_iff, or_false] at hx
    rcases hx with rfl | rfl <;> rfl
  generalize hfr : start [.p (es.v), .clo (.func 188) [] [.ptr k 0]] = fr at hst
  have g0 : rd fr 0 = .p (es.v) := by rw [← hfr, rd_start]; rfl
  have g1 : rd fr 1 = .clo (.func 188) [] [.ptr k 0] := by rw [← hfr, rd_start]; rfl
  obtain ⟨fr', hL⟩ := loop251 es hes hb h hm k hk r d0 hC ⟨h.length, h.length⟩
    (setF (setF (setF (setF fr 4 (.p (.i .i64 0))) 6 (.p (es.v))) 7 (.p (.i .i64 es.l.length))) 8 (.p (.i .i64 0))) d (by omega)
    (hst.p.p.p.p) (by simp (config := { maxDischargeDepth := 80 }) only [RD, evCode, evReg, evL, wantedV, evOp, argOf, cp, binV, intBin, putF, rd_setF, Option.map_some, Option.bind_some, if_true, Bool.true_or, decide_true, toB, takeS_pf, takeS_c, if_false, Pf.p, Pf.lp, Pf.pt, Pf.cl, Pf.nv, List.all_cons, List.all_nil, Bool.and_true, constV, constCell, nf1, ld, getCells, List.length_cons, List.length_nil, Nat.reduceEqDiff, reduceIte, Nat.reduceAdd, Nat.reduceLeDiff, List.take_succ_cons, List.take_zero, List.drop_zero, ofCells, mkAgg, mapO, V.isP, Bool.false_or, beq_self_eq_true, Bool.false_eq_true, cpL, vc_agg, vc_pagg, vc_i, PV.cells, List.map_cons, List.map_nil, Nat.zero_add, List.getElem?_cons_zero, List.getElem?_cons_succ, ↓SL.cells, ↓SL.vcells, ↓SL.cellOk, g0, g1, and_self])
  simp (config := { maxDischargeDepth := 80 }) only [lp251_0, loopsOf, bd251, Tryz.f251, List.getD_cons_zero, List.getD_cons_succ, List.nil_append, List.cons_append, List.append_nil] at hL
  rw [hand_fn (by kernel_rfl) (show env1.Q.fn 251 = some Tryz.f251 by kernel_rfl)]
  have fin : ∀ e' fr2, evCode env1 (hand env1 d).1 (hand env1 d).2 ⟨h.length, h.length⟩ 251 bd251 ⟨fr, ⟨[], h⟩⟩ = some (e', ⟨fr2, ⟨[], h⟩⟩) → (e' = .nrm ∨ e' = .ret) → ∀ n : Int, rd fr2 4 = .p (.i .i64 n) →
      evBody env1 (hand env1 d).1 (hand env1 d).2 K 251 Tryz.f251 [.p (es.v), .clo (.func 188) [] [.ptr k 0]] h = some (.p (.i .i64 n), h) := fun e' fr2 he hx n h4 =>
    body2 (fn := Tryz.f251) (code := bd251) rfl (by kernel_rfl) rfl (by show (2 : Nat) ≤ Tryz.f251.ntmps; decide) (by rw [hfr]; exact he) hx h4
  rcases hL with ⟨hin, hL, n, h4⟩ | ⟨hout, hL, hp'⟩
  · refine ⟨n, fin .ret fr' ?_ (.inr rfl) n h4, by rw [hin]; simp⟩
    simp (config := { maxDischargeDepth := 80 }) only [bd251, Tryz.f251, evCode, evReg, evL, wantedV, evOp, argOf, cp, binV, intBin, putF, rd_setF, Option.map_some, Option.bind_some, if_true, Bool.true_or, decide_true, toB, takeS_pf, takeS_c, if_false, Pf.p, Pf.lp, Pf.pt, Pf.cl, Pf.nv, List.all_cons, List.all_nil, Bool.and_true, constV, constCell, nf1, ld, getCells, List.length_cons, List.length_nil, Nat.reduceEqDiff, reduceIte, Nat.reduceAdd, Nat.reduceLeDiff, List.take_succ_cons, List.take_zero, List.drop_zero, ofCells, mkAgg, mapO, V.isP, Bool.false_or, beq_self_eq_true, Bool.false_eq_true, cpL, vc_agg, vc_pagg, vc_i, PV.cells, List.map_cons, List.map_nil, Nat.zero_add, List.getElem?_cons_zero, List.getElem?_cons_succ, ↓SL.cells, ↓SL.vcells, ↓SL.cellOk, evCall, evBuiltin, len251, g0, g1, hst, hm, and_self, Bool.or_self, hL]
  · refine ⟨-1, fin .ret (setF fr' 4 (.p (.i .i64 (-1)))) ?_ (.inr rfl) (-1) (by simp (config := { maxDischargeDepth := 80 }) only [evCode, evReg, evL, wantedV, evOp, argOf, cp, binV, intBin, putF, rd_setF, Option.map_some, Option.bind_some, if_true, Bool.true_or, decide_true, toB, takeS_pf, takeS_c, if_false, Pf.p, Pf.lp, Pf.pt, Pf.cl, Pf.nv, List.all_cons, List.all_nil, Bool.and_true, constV, constCell, nf1, ld, getCells, List.length_cons, List.length_nil, Nat.reduceEqDiff, reduceIte, Nat.reduceAdd, Nat.reduceLeDiff, List.take_succ_cons, List.take_zero, List.drop_zero, ofCells, mkAgg, mapO, V.isP, Bool.false_or, beq_self_eq_true, Bool.false_eq_true, cpL, vc_agg, vc_pagg, vc_i, PV.cells, List.map_cons, List.map_nil, Nat.zero_add, List.getElem?_cons_zero, List.getElem?_cons_succ, ↓SL.cells, ↓SL.vcells, ↓SL.cellOk]), by rw [hout]; rfl⟩
    simp (config := { maxDischargeDepth := 80 }) only [bd251, Tryz.f251, evCode, evReg, evL, wantedV, evOp, argOf, cp, binV, intBin, putF, rd_setF, Option.map_some, Option.bind_some, if_true, Bool.true_or, decide_true, toB, takeS_pf, takeS_c, if_false, Pf.p, Pf.lp, Pf.pt, Pf.cl, Pf.nv, List.all_cons, List.all_nil, Bool.and_true, constV, constCell, nf1, ld, getCells, List.length_cons, List.length_nil, Nat.reduceEqDiff, reduceIte, Nat.reduceAdd, Nat.reduceLeDiff, List.take_succ_cons, List.take_zero, List.drop_zero, ofCells, mkAgg, mapO, V.isP, Bool.false_or, beq_self_eq_true, Bool.false_eq_true, cpL, vc_agg, vc_pagg, vc_i, PV.cells, List.map_cons, List.map_nil, Nat.zero_add, List.getElem?_cons_zero, List.getElem?_cons_succ, ↓SL.cells, ↓SL.vcells, ↓SL.cellOk, evCall, evBuiltin, len251, g0, g1, hst, hm, and_self, Bool.or_self, hL]

end Go.Wn

namespace Go.Wn
open Go Go.Proofs
theorem okb252 : okFn env1.Q 252 = true := by kernel_rfl
theorem tk252 : env1.tk 252 = [] := by kernel_rfl
theorem okb251 : okFn env1.Q 251 = true := by kernel_rfl
theorem tk251 : env1.tk 251 = [] := by kernel_rfl
theorem okb187 : okFn env1.Q 187 = true := by kernel_rfl
theorem tk187 : env1.tk 187 = [] := by kernel_rfl
theorem okb189 : okFn env1.Q 189 = true := by kernel_rfl
theorem tk189 : env1.tk 189 = [] := by kernel_rfl
theorem okb106 : okFn env1.Q 106 = true := by kernel_rfl
theorem tk106 : env1.tk 106 = [] := by kernel_rfl
theorem esc189 : env1.esc 189 3 = false := by kernel_rfl
theorem esc188 : env1.esc 188 2 = false := by kernel_rfl
theorem esc106 : env1.esc 106 3 = true := by kernel_rfl

noncomputable def bd189 : Code := match Tryz.f189.body with | some c => c | none => .skip

set_option maxRecDepth 100000 in
theorem run189 (es : SL) (x y z : Int) (hes : ∀ e ∈ es.l, ∃ x y z, e = t3 x y z) (hb : es.l.length < 2 ^ 40) (h : Heap) (hm : Pm ⟨[], h⟩) (K : Ctx) (d : Nat) (hd : es.l.length + 3 ≤ d) :
    (hand env1 d).1 K 189 [.p (es.v), .p (.agg [.i .i64 x, .i .i64 y, .i .i64 z])] h = some (.p (.b (inL es.l (t3 x y z))), h) := by
  obtain ⟨d, rfl⟩ : ∃ d', d = d' + 1 := ⟨d - 1, by omega⟩
  have hst : Pf (start [.p (es.v), .p (.agg [.i .i64 x, .i .i64 y, .i .i64 z])]) := Pf.start fun x hx => by
    simp only [List.mem_cons, List.mem_nil_iff, or_false] at hx
    rcases hx with rfl | rfl <;> rfl
  generalize hfr : start [.p (es.v), .p (.agg [.i .i64 x, .i .i64 y, .i .i64 z])] = fr at hst
  have g0 : rd fr 0 = .p (es.v) := by rw [← hfr, rd_start]; rfl
  have g1 : rd fr 1 = .p (.agg [.i .i64 x, .i .i64 y, .i .i64 z]) := by rw [← hfr, rd_start]; rfl
  obtain ⟨n, hn, hdec⟩ := run252' es (t3 x y z) ⟨x, y, z, rfl⟩ hes hb h hm ⟨h.length, h.length⟩ d (by omega)
  simp only [t3] at hn
  have hdec' : decide (n ≥ (0 : Int)) = inL es.l (t3 x y z) := hdec
  have hm1 : Pm ⟨[[.p (.i .i64 x), .p (.i .i64 y), .p (.i .i64 z)]], h⟩ := ⟨(fun cs hc => by simp at hc; subst hc; rfl), hm.h⟩
  rw [hand_fn (by kernel_rfl) (show env1.Q.fn 189 = some Tryz.f189 by kernel_rfl)]
  have body : ∃ fr2 m2, evCode env1 (hand env1 d).1 (hand env1 d).2 ⟨h.length, h.length⟩ 189 bd189 ⟨fr, ⟨[], h⟩⟩ = some (.ret, ⟨fr2, m2⟩) ∧ rd fr2 4 = .p (.b (inL es.l (t3 x y z))) := by
    simp (config := { maxDischargeDepth := 80 }) only [bd189, Tryz.f189, evCode, evReg, evL, wantedV, evOp, argOf, cp, binV, intBin, putF, rd_setF, Option.map_some, Option.bind_some, if_true, Bool.true_or, decide_true, toB, takeS_pf, takeS_c, if_false, Pf.p, Pf.lp, Pf.pt, Pf.cl, Pf.nv, List.all_cons, List.all_nil, Bool.and_true, constV, constCell, nf1, ld, getCells, List.length_cons, List.length_nil, Nat.reduceEqDiff, reduceIte, Nat.reduceAdd, Nat.reduceLeDiff, List.take_succ_cons, List.take_zero, List.drop_zero, ofCells, mkAgg, mapO, V.isP, Bool.false_or, beq_self_eq_true, Bool.false_eq_true, cpL, vc_agg, vc_pagg, vc_i, PV.cells, List.map_cons, List.map_nil, Nat.zero_add, List.getElem?_cons_zero, List.getElem?_cons_succ, ↓SL.cells, ↓SL.vcells, ↓SL.cellOk, g0, g1, hst, hm, evCall, lfL, lf, argsOf, List.contains_nil, ite_self, List.nil_append, List.cons_append, List.append_nil, and_self, okb252, tk252, hn, hdec', newVarV, esc189, V.cellOk, z93, a93, Option.getD_some, List.nil_append, Bool.or_self, unV, hm1]
    exact ⟨_, _, rfl, by simp (config := { maxDischargeDepth := 80 }) only [evCode, evReg, evL, wantedV, evOp, argOf, cp, binV, intBin, putF, rd_setF, Option.map_some, Option.bind_some, if_true, Bool.true_or, decide_true, toB, takeS_pf, takeS_c, if_false, Pf.p, Pf.lp, Pf.pt, Pf.cl, Pf.nv, List.all_cons, List.all_nil, Bool.and_true, constV, constCell, nf1, ld, getCells, List.length_cons, List.length_nil, Nat.reduceEqDiff, reduceIte, Nat.reduceAdd, Nat.reduceLeDiff, List.take_succ_cons, List.take_zero, List.drop_zero, ofCells, mkAgg, mapO, V.isP, Bool.false_or, beq_self_eq_true, Bool.false_eq_true, cpL, vc_agg, vc_pagg, vc_i, PV.cells, List.map_cons, List.map_nil, Nat.zero_add, List.getElem?_cons_zero, List.getElem?_cons_succ, ↓SL.cells, ↓SL.vcells, ↓SL.cellOk, g0, g1, hst, hm, evCall, lfL, lf, argsOf, List.contains_nil, ite_self, List.nil_append, List.cons_append, List.append_nil, and_self, okb252, tk252, hn, hdec', newVarV, esc189, V.cellOk, z93, a93, Option.getD_some, List.nil_append, Bool.or_self, unV, hm1]⟩
  obtain ⟨fr2, m2, he, hv⟩ := body
  exact body2 (fn := Tryz.f189) (code := bd189) rfl (by kernel_rfl) rfl (by show (2 : Nat) ≤ Tryz.f189.ntmps; decide) (by rw [hfr]; exact he) (.inr rfl) hv

noncomputable def bd188 : Code := match Tryz.f188.body with | some c => c | none => .skip

set_option maxRecDepth 100000 in
theorem run188 (es : SL) (x y z : Int) (hes : ∀ e ∈ es.l, ∃ x y z, e = t3 x y z) (hb : es.l.length < 2 ^ 40) (h : Heap) (k : Nat) (hk : h[k]? = some (.var [.p (es.v)])) (hm : Pm ⟨[], h⟩) (K : Ctx) (d : Nat) (hd : es.l.length + 4 ≤ d) :
    (hand env1 d).1 K 188 [.p (.agg [.i .i64 x, .i .i64 y, .i .i64 z]), .ptr k 0] h = some (.p (.b (!inL es.l (t3 x y z))), h) := by
  obtain ⟨d, rfl⟩ : ∃ d', d = d' + 1 := ⟨d - 1, by omega⟩
  have hst : Pf (start [.p (.agg [.i .i64 x, .i .i64 y, .i .i64 z]), .ptr k 0]) := Pf.start fun x hx => by
    simp only [List.mem_cons, List.mem_nil_iff, or_false] at hx
    rcases hx with rfl | rfl <;> rfl
  generalize hfr : start [.p (.agg [.i .i64 x, .i .i64 y, .i .i64 z]), .ptr k 0] = fr at hst
  have g0 : rd fr 0 = .p (.agg [.i .i64 x, .i .i64 y, .i .i64 z]) := by rw [← hfr, rd_start]; rfl
  have g1 : rd fr 1 = .ptr k 0 := by rw [← hfr, rd_start]; rfl
  have hn : (hand env1 d).1 ⟨h.length, h.length⟩ 189 [.p (es.v), .p (.agg [.i .i64 x, .i .i64 y, .i .i64 z])] h = some (.p (.b (inL es.l (t3 x y z))), h) := run189 es x y z hes hb h hm _ d (by omega)
  have hm1 : Pm ⟨[[.p (.i .i64 x), .p (.i .i64 y), .p (.i .i64 z)]], h⟩ := ⟨(fun cs hc => by simp at hc; subst hc; rfl), hm.h⟩
  rw [hand_fn (by kernel_rfl) (show env1.Q.fn 188 = some Tryz.f188 by kernel_rfl)]
  have body : ∃ fr2 m2, evCode env1 (hand env1 d).1 (hand env1 d).2 ⟨h.length, h.length⟩ 188 bd188 ⟨fr, ⟨[], h⟩⟩ = some (.ret, ⟨fr2, m2⟩) ∧ rd fr2 3 = .p (.b (!inL es.l (t3 x y z))) := by
    simp (config := { maxDischargeDepth := 80 }) only [bd188, Tryz.f188, evCode, evReg, evL, wantedV, evOp, argOf, cp, binV, intBin, putF, rd_setF, Option.map_some, Option.bind_some, if_true, Bool.true_or, decide_true, toB, takeS_pf, takeS_c, if_false, Pf.p, Pf.lp, Pf.pt, Pf.cl, Pf.nv, List.all_cons, List.all_nil, Bool.and_true, constV, constCell, nf1, ld, getCells, List.length_cons, List.length_nil, Nat.reduceEqDiff, reduceIte, Nat.reduceAdd, Nat.reduceLeDiff, List.take_succ_cons, List.take_zero, List.drop_zero, ofCells, mkAgg, mapO, V.isP, Bool.false_or, beq_self_eq_true, Bool.false_eq_true, cpL, vc_agg, vc_pagg, vc_i, PV.cells, List.map_cons, List.map_nil, Nat.zero_add, List.getElem?_cons_zero, List.getElem?_cons_succ, ↓SL.cells, ↓SL.vcells, ↓SL.cellOk, g0, g1, hst, hm, evCall, lfL, lf, argsOf, List.contains_nil, ite_self, List.nil_append, List.cons_append, List.append_nil, and_self, unV, hk, okb189, tk189, hn, z74, a74, newVarV, esc188, V.cellOk, z93, a93, Option.getD_some, List.nil_append, Bool.or_self, hm1]
    exact ⟨_, _, rfl, by simp (config := { maxDischargeDepth := 80 }) only [evCode, evReg, evL, wantedV, evOp, argOf, cp, binV, intBin, putF, rd_setF, Option.map_some, Option.bind_some, if_true, Bool.true_or, decide_true, toB, takeS_pf, takeS_c, if_false, Pf.p, Pf.lp, Pf.pt, Pf.cl, Pf.nv, List.all_cons, List.all_nil, Bool.and_true, constV, constCell, nf1, ld, getCells, List.length_cons, List.length_nil, Nat.reduceEqDiff, reduceIte, Nat.reduceAdd, Nat.reduceLeDiff, List.take_succ_cons, List.take_zero, List.drop_zero, ofCells, mkAgg, mapO, V.isP, Bool.false_or, beq_self_eq_true, Bool.false_eq_true, cpL, vc_agg, vc_pagg, vc_i, PV.cells, List.map_cons, List.map_nil, Nat.zero_add, List.getElem?_cons_zero, List.getElem?_cons_succ, ↓SL.cells, ↓SL.vcells, ↓SL.cellOk, g0, g1, hst, hm, evCall, lfL, lf, argsOf, List.contains_nil, ite_self, List.nil_append, List.cons_append, List.append_nil, and_self, unV, hk, okb189, tk189, hn, z74, a74, newVarV, esc188, V.cellOk, z93, a93, Option.getD_some, List.nil_append, Bool.or_self, hm1]⟩
  obtain ⟨fr2, m2, he, hv⟩ := body
  exact body2 (fn := Tryz.f188) (code := bd188) rfl (by kernel_rfl) rfl (by show (2 : Nat) ≤ Tryz.f188.ntmps; decide) (by rw [hfr]; exact he) (.inr rfl) hv

noncomputable def bd187 : Code := match Tryz.f187.body with | some c => c | none => .skip

set_option maxRecDepth 100000 in
theorem run187 (es : SL) (hes : ∀ e ∈ es.l, ∃ x y z, e = t3 x y z) (hb : es.l.length < 2 ^ 40) (h : Heap) (hm : Pm ⟨[], h⟩) (k : Nat) (hk : k < h.length) (r : PV → Bool) (d0 : Nat) (hC : ∀ d K e, d0 ≤ d → e ∈ es.l → (hand env1 d).1 K 188 [.p e, .ptr k 0] h = some (.p (.b (r e)), h)) (K : Ctx) (d : Nat) (hd : d0 + es.l.length + 3 ≤ d) :
    (hand env1 d).1 K 187 [.p (es.v), .clo (.func 188) [] [.ptr k 0]] h = some (.p (.b (es.l.any r)), h) := by
  obtain ⟨d, rfl⟩ : ∃ d', d = d' + 1 := ⟨d - 1, by omega⟩
  have hst : Pf (start [.p (es.v), .clo (.func 188) [] [.ptr k 0]]) := Pf.start fun x hx => by
    simp only [List.mem_cons, List.mem_nil_iff, or_false] at hx
    rcases hx with rfl | rfl <;> rfl
  generalize hfr : start [.p (es.v), .clo (.func 188) [] [.ptr k 0]] = fr at hst
  have g0 : rd fr 0 = .p (es.v) := by rw [← hfr, rd_start]; rfl
  have g1 : rd fr 1 = .clo (.func 188) [] [.ptr k 0] := by rw [← hfr, rd_start]; rfl
  obtain ⟨n, hn, hdec⟩ := run251 es hes hb h hm k hk r d0 hC ⟨h.length, h.length⟩ d (by omega)
  have hdec' : decide (n ≥ (0 : Int)) = es.l.any r := hdec
  rw [hand_fn (by kernel_rfl) (show env1.Q.fn 187 = some Tryz.f187 by kernel_rfl)]
  have body : ∃ fr2 m2, evCode env1 (hand env1 d).1 (hand env1 d).2 ⟨h.length, h.length⟩ 187 bd187 ⟨fr, ⟨[], h⟩⟩ = some (.ret, ⟨fr2, m2⟩) ∧ rd fr2 4 = .p (.b (es.l.any r)) := by
    simp (config := { maxDischargeDepth := 80 }) only [bd187, Tryz.f187, evCode, evReg, evL, wantedV, evOp, argOf, cp, binV, intBin, putF, rd_setF, Option.map_some, Option.bind_some, if_true, Bool.true_or, decide_true, toB, takeS_pf, takeS_c, if_false, Pf.p, Pf.lp, Pf.pt, Pf.cl, Pf.nv, List.all_cons, List.all_nil, Bool.and_true, constV, constCell, nf1, ld, getCells, List.length_cons, List.length_nil, Nat.reduceEqDiff, reduceIte, Nat.reduceAdd, Nat.reduceLeDiff, List.take_succ_cons, List.take_zero, List.drop_zero, ofCells, mkAgg, mapO, V.isP, Bool.false_or, beq_self_eq_true, Bool.false_eq_true, cpL, vc_agg, vc_pagg, vc_i, PV.cells, List.map_cons, List.map_nil, Nat.zero_add, List.getElem?_cons_zero, List.getElem?_cons_succ, ↓SL.cells, ↓SL.vcells, ↓SL.cellOk, g0, g1, hst, hm, evCall, lfL, lf, argsOf, List.contains_nil, ite_self, List.nil_append, List.cons_append, List.append_nil, and_self, okb251, tk251, hn, hdec', lfL, lf]
    exact ⟨_, _, rfl, by simp (config := { maxDischargeDepth := 80 }) only [evCode, evReg, evL, wantedV, evOp, argOf, cp, binV, intBin, putF, rd_setF, Option.map_some, Option.bind_some, if_true, Bool.true_or, decide_true, toB, takeS_pf, takeS_c, if_false, Pf.p, Pf.lp, Pf.pt, Pf.cl, Pf.nv, List.all_cons, List.all_nil, Bool.and_true, constV, constCell, nf1, ld, getCells, List.length_cons, List.length_nil, Nat.reduceEqDiff, reduceIte, Nat.reduceAdd, Nat.reduceLeDiff, List.take_succ_cons, List.take_zero, List.drop_zero, ofCells, mkAgg, mapO, V.isP, Bool.false_or, beq_self_eq_true, Bool.false_eq_true, cpL, vc_agg, vc_pagg, vc_i, PV.cells, List.map_cons, List.map_nil, Nat.zero_add, List.getElem?_cons_zero, List.getElem?_cons_succ, ↓SL.cells, ↓SL.vcells, ↓SL.cellOk, g0, g1, hst, hm, evCall, lfL, lf, argsOf, List.contains_nil, ite_self, List.nil_append, List.cons_append, List.append_nil, and_self, okb251, tk251, hn, hdec', lfL, lf]⟩
  obtain ⟨fr2, m2, he, hv⟩ := body
  exact body2 (fn := Tryz.f187) (code := bd187) rfl (by kernel_rfl) rfl (by show (2 : Nat) ≤ Tryz.f187.ntmps; decide) (by rw [hfr]; exact he) (.inr rfl) hv

noncomputable def bd106 : Code := match Tryz.f106.body with | some c => c | none => .skip

set_option maxRecDepth 100000 in
theorem run106 (es bs : SL) (hes : ∀ e ∈ es.l, ∃ x y z, e = t3 x y z) (hb : es.l.length < 2 ^ 40) (hbs : ∀ e ∈ bs.l, ∃ x y z, e = t3 x y z) (hbb : bs.l.length < 2 ^ 40) (h : Heap) (hm : Pm ⟨[], h⟩) (K : Ctx) (d : Nat) (hd : bs.l.length + es.l.length + 8 ≤ d) :
    (hand env1 d).1 K 106 [.p (es.v), .p (bs.v)] h = some (.p (.b (allL es.l bs.l)), h) := by
  obtain ⟨d, rfl⟩ : ∃ d', d = d' + 1 := ⟨d - 1, by omega⟩
  have hst : Pf (start [.p (es.v), .p (bs.v)]) := Pf.start fun x hx => by
    simp only [List.mem_cons, List.mem_nil_iff, or_false] at hx
    rcases hx with rfl | rfl <;> rfl
  generalize hfr : start [.p (es.v), .p (bs.v)] = fr at hst
  have g0 : rd fr 0 = .p (es.v) := by rw [← hfr, rd_start]; rfl
  have g1 : rd fr 1 = .p (bs.v) := by rw [← hfr, rd_start]; rfl
  have hm1 : Pm ⟨[], h ++ [.var [.p (bs.v)]]⟩ := ⟨hm.l, fun x hx => by
    rcases List.mem_append.1 hx with hx | hx
    · exact hm.h x hx
    · simp at hx; subst hx; rfl⟩
  have hn : (hand env1 d).1 ⟨h.length, h.length⟩ 187 [.p (es.v), .clo (.func 188) [] [.ptr h.length 0]] (h ++ [.var [.p (bs.v)]]) = some (.p (.b (es.l.any fun e => !inL bs.l e)), h ++ [.var [.p (bs.v)]]) :=
    run187 es hes hb _ hm1 h.length (by simp) (fun e => !inL bs.l e) (bs.l.length + 4) (fun d K e hd he => by
      obtain ⟨x, y, z, rfl⟩ := hes e he
      exact run188 bs x y z hbs hbb _ h.length (by simp) hm1 K d hd) _ d (by omega)
  have hall : (!es.l.any fun e => !inL bs.l e) = allL es.l bs.l := by unfold allL; rw [List.not_any_eq_all_not]; simp
  rw [hand_fn (by kernel_rfl) (show env1.Q.fn 106 = some Tryz.f106 by kernel_rfl)]
  have body : ∃ fr2 m2, evCode env1 (hand env1 d).1 (hand env1 d).2 ⟨h.length, h.length⟩ 106 bd106 ⟨fr, ⟨[], h⟩⟩ = some (.ret, ⟨fr2, m2⟩) ∧ rd fr2 4 = .p (.b (allL es.l bs.l)) := by
    simp (config := { maxDischargeDepth := 80 }) only [bd106, Tryz.f106, evCode, evReg, evL, wantedV, evOp, argOf, cp, binV, intBin, putF, rd_setF, Option.map_some, Option.bind_some, if_true, Bool.true_or, decide_true, toB, takeS_pf, takeS_c, if_false, Pf.p, Pf.lp, Pf.pt, Pf.cl, Pf.nv, List.all_cons, List.all_nil, Bool.and_true, constV, constCell, nf1, ld, getCells, List.length_cons, List.length_nil, Nat.reduceEqDiff, reduceIte, Nat.reduceAdd, Nat.reduceLeDiff, List.take_succ_cons, List.take_zero, List.drop_zero, ofCells, mkAgg, mapO, V.isP, Bool.false_or, beq_self_eq_true, Bool.false_eq_true, cpL, vc_agg, vc_pagg, vc_i, PV.cells, List.map_cons, List.map_nil, Nat.zero_add, List.getElem?_cons_zero, List.getElem?_cons_succ, ↓SL.cells, ↓SL.vcells, ↓SL.cellOk, g0, g1, hst, hm, evCall, lfL, lf, argsOf, List.contains_nil, ite_self, List.nil_append, List.cons_append, List.append_nil, and_self, okb187, tk187, hn, hall, unV, newVarV, esc106, V.cellOk, z74, a74, Option.getD_some, List.nil_append, Bool.or_true, hm1, List.map_nil, List.map_cons, Array.toList]
    exact ⟨_, _, rfl, by simp (config := { maxDischargeDepth := 80 }) only [evCode, evReg, evL, wantedV, evOp, argOf, cp, binV, intBin, putF, rd_setF, Option.map_some, Option.bind_some, if_true, Bool.true_or, decide_true, toB, takeS_pf, takeS_c, if_false, Pf.p, Pf.lp, Pf.pt, Pf.cl, Pf.nv, List.all_cons, List.all_nil, Bool.and_true, constV, constCell, nf1, ld, getCells, List.length_cons, List.length_nil, Nat.reduceEqDiff, reduceIte, Nat.reduceAdd, Nat.reduceLeDiff, List.take_succ_cons, List.take_zero, List.drop_zero, ofCells, mkAgg, mapO, V.isP, Bool.false_or, beq_self_eq_true, Bool.false_eq_true, cpL, vc_agg, vc_pagg, vc_i, PV.cells, List.map_cons, List.map_nil, Nat.zero_add, List.getElem?_cons_zero, List.getElem?_cons_succ, ↓SL.cells, ↓SL.vcells, ↓SL.cellOk, g0, g1, hst, hm, evCall, lfL, lf, argsOf, List.contains_nil, ite_self, List.nil_append, List.cons_append, List.append_nil, and_self, okb187, tk187, hn, hall, unV, newVarV, esc106, V.cellOk, z74, a74, Option.getD_some, List.nil_append, Bool.or_true, hm1, List.map_nil, List.map_cons, Array.toList]⟩
  obtain ⟨fr2, m2, he, hv⟩ := body
  exact body2 (fn := Tryz.f106) (code := bd106) rfl (by kernel_rfl) rfl (by show (2 : Nat) ≤ Tryz.f106.ntmps; decide) (by rw [hfr]; exact he) (.inr rfl) hv

end Go.Wn

namespace Go.Wn
open Go Go.Proofs

noncomputable def eqP (a b : PV) : Bool := @decide (a = b) (Classical.propDecidable _)
theorem inL_any (l : List PV) (e : PV) : inL l e = l.any (eqP e) := by
  rw [Bool.eq_iff_iff, inL_iff, List.any_eq_true]
  unfold eqP
  constructor
  · intro h; exact ⟨e, h, by simp⟩
  · rintro ⟨x, hx, he⟩
    have : e = x := by simpa using he
    rw [this]; exact hx

noncomputable def bd109 : Code := match Tryz.f109.body with | some c => c | none => .skip
noncomputable def lp109_0 : Code := (loopsOf bd109).getD 0 .skip
theorem len109 (h : Heap) (es : SL) : lenB env1.Q h 74 (.p (es.v)) = some (.p (.i .i64 es.l.length)) := by obtain ⟨l, b⟩ := es; cases b <;> cases l <;> kernel_rfl
theorem esc109 : env1.esc 109 3 = false := by kernel_rfl

set_option maxRecDepth 100000 in
theorem round109_0 (C : Handler) (L : LHandler) (K : Ctx) (fr : Fr) (h : Heap) (es : SL) (i : Nat) (a b c : Int) (x y z : Int) (hi : es.l[i]? = some (t3 x y z)) (hb : es.l.length < 2 ^ 40)  (hp : Pf fr) (hm : Pm ⟨[[.p (.i .i64 a), .p (.i .i64 b), .p (.i .i64 c)]], h⟩) (hR : RD fr [(0, .p (es.v)), (3, .lptr 0 0), (5, .p (.i .i64 i))]) :
    ∃ fr', evCode env1 C L K 109 lp109_0 ⟨fr, ⟨[[.p (.i .i64 a), .p (.i .i64 b), .p (.i .i64 c)]], h⟩⟩ = some (if (decide (x = a ∧ y = b ∧ z = c)) then .ret else .nrm, ⟨fr', ⟨[[.p (.i .i64 a), .p (.i .i64 b), .p (.i .i64 c)]], h⟩⟩) ∧ Pf fr' ∧ ((decide (x = a ∧ y = b ∧ z = c)) = true → rd fr' 4 = .p (.b true)) ∧ ((decide (x = a ∧ y = b ∧ z = c)) = false → RD fr' [(0, .p (es.v)), (3, .lptr 0 0), (5, .p (.i .i64 (i + 1 : Nat)))]) := by
  simp only [RD, and_true] at hR
  obtain ⟨h0, h3, h5⟩ := hR
  have hlt : i < es.l.length := lt_of_get hi
  have hlt' : (i : Int) < (es.l.length : Int) := by omega
  have hix := ixa252 (h := h) hi
  have hw := wrap_nat hlt hb
  unfold lp109_0
  simp (config := { maxDischargeDepth := 80 }) only [loopsOf, bd109, Tryz.f109, List.getD_cons_zero, List.getD_cons_succ, List.nil_append, List.cons_append, List.append_nil, evCode, evReg, evL, wantedV, evOp, argOf, cp, binV, intBin, putF, rd_setF, Option.map_some, Option.bind_some, if_true, Bool.true_or, decide_true, toB, takeS_pf, takeS_c, if_false, Pf.p, Pf.lp, Pf.pt, Pf.cl, Pf.nv, List.all_cons, List.all_nil, Bool.and_true, constV, constCell, nf1, ld, getCells, List.length_cons, List.length_nil, Nat.reduceEqDiff, reduceIte, Nat.reduceAdd, Nat.reduceLeDiff, List.take_succ_cons, List.take_zero, List.drop_zero, ofCells, mkAgg, mapO, V.isP, Bool.false_or, beq_self_eq_true, Bool.false_eq_true, cpL, vc_agg, vc_pagg, vc_i, PV.cells, List.map_cons, List.map_nil, Nat.zero_add, List.getElem?_cons_zero, List.getElem?_cons_succ, ↓SL.cells, ↓SL.vcells, ↓SL.cellOk, h0, h3, h5, hix, hlt', evCall, evBuiltin, len109, u74, z93, a93, eq93, hp, hm]
  rw [evRegD]
  rotate_left
  · rfl
  · kernel_rfl
  simp (config := { maxDischargeDepth := 80 }) only [evCode, evReg, evL, wantedV, evOp, argOf, cp, binV, intBin, putF, rd_setF, Option.map_some, Option.bind_some, if_true, Bool.true_or, decide_true, toB, takeS_pf, takeS_c, if_false, Pf.p, Pf.lp, Pf.pt, Pf.cl, Pf.nv, List.all_cons, List.all_nil, Bool.and_true, constV, constCell, nf1, ld, getCells, List.length_cons, List.length_nil, Nat.reduceEqDiff, reduceIte, Nat.reduceAdd, Nat.reduceLeDiff, List.take_succ_cons, List.take_zero, List.drop_zero, ofCells, mkAgg, mapO, V.isP, Bool.false_or, beq_self_eq_true, Bool.false_eq_true, cpL, vc_agg, vc_pagg, vc_i, PV.cells, List.map_cons, List.map_nil, Nat.zero_add, List.getElem?_cons_zero, List.getElem?_cons_succ, ↓SL.cells, ↓SL.vcells, ↓SL.cellOk, h0, h3, h5, hix, hlt', evCall, evBuiltin, len109, u74, z93, a93, eq93, hp, hm]
  cases hE : (decide (x = a ∧ y = b ∧ z = c))
  · simp (config := { maxDischargeDepth := 80 }) only [hE, Bool.not_true, Bool.not_false, if_true, if_false, evCode, evReg, evL, wantedV, evOp, argOf, cp, binV, intBin, putF, rd_setF, Option.map_some, Option.bind_some, if_true, Bool.true_or, decide_true, toB, takeS_pf, takeS_c, if_false, Pf.p, Pf.lp, Pf.pt, Pf.cl, Pf.nv, List.all_cons, List.all_nil, Bool.and_true, constV, constCell, nf1, ld, getCells, List.length_cons, List.length_nil, Nat.reduceEqDiff, reduceIte, Nat.reduceAdd, Nat.reduceLeDiff, List.take_succ_cons, List.take_zero, List.drop_zero, ofCells, mkAgg, mapO, V.isP, Bool.false_or, beq_self_eq_true, Bool.false_eq_true, cpL, vc_agg, vc_pagg, vc_i, PV.cells, List.map_cons, List.map_nil, Nat.zero_add, List.getElem?_cons_zero, List.getElem?_cons_succ, ↓SL.cells, ↓SL.vcells, ↓SL.cellOk, h0, h3, h5, hix, hlt', evCall, evBuiltin, len109, u74, z93, a93, eq93, hp, hm]
    refine ⟨_, rfl, ?_, fun h => (by cases h), fun _ => ?_⟩
    · simp (config := { maxDischargeDepth := 80 }) only [evCode, evReg, evL, wantedV, evOp, argOf, cp, binV, intBin, putF, rd_setF, Option.map_some, Option.bind_some, if_true, Bool.true_or, decide_true, toB, takeS_pf, takeS_c, if_false, Pf.p, Pf.lp, Pf.pt, Pf.cl, Pf.nv, List.all_cons, List.all_nil, Bool.and_true, constV, constCell, nf1, ld, getCells, List.length_cons, List.length_nil, Nat.reduceEqDiff, reduceIte, Nat.reduceAdd, Nat.reduceLeDiff, List.take_succ_cons, List.take_zero, List.drop_zero, ofCells, mkAgg, mapO, V.isP, Bool.false_or, beq_self_eq_true, Bool.false_eq_true, cpL, vc_agg, vc_pagg, vc_i, PV.cells, List.map_cons, List.map_nil, Nat.zero_add, List.getElem?_cons_zero, List.getElem?_cons_succ, ↓SL.cells, ↓SL.vcells, ↓SL.cellOk, h0, h3, h5, hix, hlt', evCall, evBuiltin, len109, u74, z93, a93, eq93, hp, hm]
    · simp (config := { maxDischargeDepth := 80 }) only [RD, evCode, evReg, evL, wantedV, evOp, argOf, cp, binV, intBin, putF, rd_setF, Option.map_some, Option.bind_some, if_true, Bool.true_or, decide_true, toB, takeS_pf, takeS_c, if_false, Pf.p, Pf.lp, Pf.pt, Pf.cl, Pf.nv, List.all_cons, List.all_nil, Bool.and_true, constV, constCell, nf1, ld, getCells, List.length_cons, List.length_nil, Nat.reduceEqDiff, reduceIte, Nat.reduceAdd, Nat.reduceLeDiff, List.take_succ_cons, List.take_zero, List.drop_zero, ofCells, mkAgg, mapO, V.isP, Bool.false_or, beq_self_eq_true, Bool.false_eq_true, cpL, vc_agg, vc_pagg, vc_i, PV.cells, List.map_cons, List.map_nil, Nat.zero_add, List.getElem?_cons_zero, List.getElem?_cons_succ, ↓SL.cells, ↓SL.vcells, ↓SL.cellOk, h0, h3, h5, hix, hlt', evCall, evBuiltin, len109, u74, z93, a93, eq93, hp, hm, hw, and_self]
  · simp (config := { maxDischargeDepth := 80 }) only [hE, Bool.not_true, Bool.not_false, if_true, if_false, evCode, evReg, evL, wantedV, evOp, argOf, cp, binV, intBin, putF, rd_setF, Option.map_some, Option.bind_some, if_true, Bool.true_or, decide_true, toB, takeS_pf, takeS_c, if_false, Pf.p, Pf.lp, Pf.pt, Pf.cl, Pf.nv, List.all_cons, List.all_nil, Bool.and_true, constV, constCell, nf1, ld, getCells, List.length_cons, List.length_nil, Nat.reduceEqDiff, reduceIte, Nat.reduceAdd, Nat.reduceLeDiff, List.take_succ_cons, List.take_zero, List.drop_zero, ofCells, mkAgg, mapO, V.isP, Bool.false_or, beq_self_eq_true, Bool.false_eq_true, cpL, vc_agg, vc_pagg, vc_i, PV.cells, List.map_cons, List.map_nil, Nat.zero_add, List.getElem?_cons_zero, List.getElem?_cons_succ, ↓SL.cells, ↓SL.vcells, ↓SL.cellOk, h0, h3, h5, hix, hlt', evCall, evBuiltin, len109, u74, z93, a93, eq93, hp, hm]
    refine ⟨_, rfl, ?_, fun _ => ?_, fun h => (by cases h)⟩
    · simp (config := { maxDischargeDepth := 80 }) only [evCode, evReg, evL, wantedV, evOp, argOf, cp, binV, intBin, putF, rd_setF, Option.map_some, Option.bind_some, if_true, Bool.true_or, decide_true, toB, takeS_pf, takeS_c, if_false, Pf.p, Pf.lp, Pf.pt, Pf.cl, Pf.nv, List.all_cons, List.all_nil, Bool.and_true, constV, constCell, nf1, ld, getCells, List.length_cons, List.length_nil, Nat.reduceEqDiff, reduceIte, Nat.reduceAdd, Nat.reduceLeDiff, List.take_succ_cons, List.take_zero, List.drop_zero, ofCells, mkAgg, mapO, V.isP, Bool.false_or, beq_self_eq_true, Bool.false_eq_true, cpL, vc_agg, vc_pagg, vc_i, PV.cells, List.map_cons, List.map_nil, Nat.zero_add, List.getElem?_cons_zero, List.getElem?_cons_succ, ↓SL.cells, ↓SL.vcells, ↓SL.cellOk, h0, h3, h5, hix, hlt', evCall, evBuiltin, len109, u74, z93, a93, eq93, hp, hm]
    · simp (config := { maxDischargeDepth := 80 }) only [evCode, evReg, evL, wantedV, evOp, argOf, cp, binV, intBin, putF, rd_setF, Option.map_some, Option.bind_some, if_true, Bool.true_or, decide_true, toB, takeS_pf, takeS_c, if_false, Pf.p, Pf.lp, Pf.pt, Pf.cl, Pf.nv, List.all_cons, List.all_nil, Bool.and_true, constV, constCell, nf1, ld, getCells, List.length_cons, List.length_nil, Nat.reduceEqDiff, reduceIte, Nat.reduceAdd, Nat.reduceLeDiff, List.take_succ_cons, List.take_zero, List.drop_zero, ofCells, mkAgg, mapO, V.isP, Bool.false_or, beq_self_eq_true, Bool.false_eq_true, cpL, vc_agg, vc_pagg, vc_i, PV.cells, List.map_cons, List.map_nil, Nat.zero_add, List.getElem?_cons_zero, List.getElem?_cons_succ, ↓SL.cells, ↓SL.vcells, ↓SL.cellOk, h0, h3, h5, hix, hlt', evCall, evBuiltin, len109, u74, z93, a93, eq93, hp, hm]

set_option maxRecDepth 100000 in
theorem exit109_0 (C : Handler) (L : LHandler) (K : Ctx) (fr : Fr) (h : Heap) (es : SL) (a b c : Int) (hp : Pf fr) (hm : Pm ⟨[[.p (.i .i64 a), .p (.i .i64 b), .p (.i .i64 c)]], h⟩) (hR : RD fr [(0, .p (es.v)), (3, .lptr 0 0), (5, .p (.i .i64 es.l.length))]) :
    ∃ fr', evCode env1 C L K 109 lp109_0 ⟨fr, ⟨[[.p (.i .i64 a), .p (.i .i64 b), .p (.i .i64 c)]], h⟩⟩ = some (.ext 0, ⟨fr', ⟨[[.p (.i .i64 a), .p (.i .i64 b), .p (.i .i64 c)]], h⟩⟩) ∧ Pf fr' ∧ RD fr' [] := by
  simp only [RD, and_true] at hR
  obtain ⟨h0, h3, h5⟩ := hR
  have hn : ¬ ((es.l.length : Int) < (es.l.length : Int)) := by omega
  unfold lp109_0
  simp (config := { maxDischargeDepth := 80 }) only [loopsOf, bd109, Tryz.f109, List.getD_cons_zero, List.getD_cons_succ, List.nil_append, List.cons_append, List.append_nil, evCode, evReg, evL, wantedV, evOp, argOf, cp, binV, intBin, putF, rd_setF, Option.map_some, Option.bind_some, if_true, Bool.true_or, decide_true, toB, takeS_pf, takeS_c, if_false, Pf.p, Pf.lp, Pf.pt, Pf.cl, Pf.nv, List.all_cons, List.all_nil, Bool.and_true, constV, constCell, nf1, ld, getCells, List.length_cons, List.length_nil, Nat.reduceEqDiff, reduceIte, Nat.reduceAdd, Nat.reduceLeDiff, List.take_succ_cons, List.take_zero, List.drop_zero, ofCells, mkAgg, mapO, V.isP, Bool.false_or, beq_self_eq_true, Bool.false_eq_true, cpL, vc_agg, vc_pagg, vc_i, PV.cells, List.map_cons, List.map_nil, Nat.zero_add, List.getElem?_cons_zero, List.getElem?_cons_succ, ↓SL.cells, ↓SL.vcells, ↓SL.cellOk, h0, h3, h5, evCall, evBuiltin, len109, hp, hm, hn, decide_false]
  exact ⟨_, rfl, by simp (config := { maxDischargeDepth := 80 }) only [evCode, evReg, evL, wantedV, evOp, argOf, cp, binV, intBin, putF, rd_setF, Option.map_some, Option.bind_some, if_true, Bool.true_or, decide_true, toB, takeS_pf, takeS_c, if_false, Pf.p, Pf.lp, Pf.pt, Pf.cl, Pf.nv, List.all_cons, List.all_nil, Bool.and_true, constV, constCell, nf1, ld, getCells, List.length_cons, List.length_nil, Nat.reduceEqDiff, reduceIte, Nat.reduceAdd, Nat.reduceLeDiff, List.take_succ_cons, List.take_zero, List.drop_zero, ofCells, mkAgg, mapO, V.isP, Bool.false_or, beq_self_eq_true, Bool.false_eq_true, cpL, vc_agg, vc_pagg, vc_i, PV.cells, List.map_cons, List.map_nil, Nat.zero_add, List.getElem?_cons_zero, List.getElem?_cons_succ, ↓SL.cells, ↓SL.vcells, ↓SL.cellOk, h0, h3, h5, evCall, evBuiltin, len109, hp, hm], by simp (config := { maxDischargeDepth := 80 }) only [RD, evCode, evReg, evL, wantedV, evOp, argOf, cp, binV, intBin, putF, rd_setF, Option.map_some, Option.bind_some, if_true, Bool.true_or, decide_true, toB, takeS_pf, takeS_c, if_false, Pf.p, Pf.lp, Pf.pt, Pf.cl, Pf.nv, List.all_cons, List.all_nil, Bool.and_true, constV, constCell, nf1, ld, getCells, List.length_cons, List.length_nil, Nat.reduceEqDiff, reduceIte, Nat.reduceAdd, Nat.reduceLeDiff, List.take_succ_cons, List.take_zero, List.drop_zero, ofCells, mkAgg, mapO, V.isP, Bool.false_or, beq_self_eq_true, Bool.false_eq_true, cpL, vc_agg, vc_pagg, vc_i, PV.cells, List.map_cons, List.map_nil, Nat.zero_add, List.getElem?_cons_zero, List.getElem?_cons_succ, ↓SL.cells, ↓SL.vcells, ↓SL.cellOk, h0, h3, h5, evCall, evBuiltin, len109, hp, hm, and_self]⟩

theorem loop109_0 (es : SL) (a b c : Int) (hes : ∀ e ∈ es.l, ∃ x y z, e = t3 x y z) (hb : es.l.length < 2 ^ 40) (h : Heap) (hm : Pm ⟨[[.p (.i .i64 a), .p (.i .i64 b), .p (.i .i64 c)]], h⟩)  (K : Ctx) (fr : Fr) (d : Nat) (hd : 0 + es.l.length + 1 ≤ d) (hp : Pf fr) (hR : RD fr [(0, .p (es.v)), (3, .lptr 0 0), (5, .p (.i .i64 0))]) :
    ∃ fr', (es.l.any (eqP (t3 a b c)) = true ∧ (hand env1 d).2 K 109 lp109_0 ⟨fr, ⟨[[.p (.i .i64 a), .p (.i .i64 b), .p (.i .i64 c)]], h⟩⟩ = some (.ret, ⟨fr', ⟨[[.p (.i .i64 a), .p (.i .i64 b), .p (.i .i64 c)]], h⟩⟩) ∧ ∃ i : Nat, rd fr' 4 = .p (.b true)) ∨ (es.l.any (eqP (t3 a b c)) = false ∧ (hand env1 d).2 K 109 lp109_0 ⟨fr, ⟨[[.p (.i .i64 a), .p (.i .i64 b), .p (.i .i64 c)]], h⟩⟩ = some (.ext 0, ⟨fr', ⟨[[.p (.i .i64 a), .p (.i .i64 b), .p (.i .i64 c)]], h⟩⟩) ∧ Pf fr' ∧ RD fr' []) := by
  have key := loop_find (E := env1) (K := K) (f := 109) (body := lp109_0) (m := ⟨[[.p (.i .i64 a), .p (.i .i64 b), .p (.i .i64 c)]], h⟩) (by kernel_rfl) (fun cs hcs => by
      simp only [List.mem_cons, List.mem_nil_iff, or_false] at hcs
      rcases hcs with rfl
      · exact ⟨[.i .i64 a, .i .i64 b, .i .i64 c], rfl⟩) es.l.length 0 0 (fun i fr => Pf fr ∧ RD fr [(0, .p (es.v)), (3, .lptr 0 0), (5, .p (.i .i64 i))]) (fun fr => ∃ i : Nat, rd fr 4 = .p (.b true)) (fun fr => Pf fr ∧ RD fr []) (fun i => (es.l[i]?).any (eqP (t3 a b c)))
    (fun d i fr hd hi ⟨hp, hR⟩ => by
      obtain ⟨x, y, z, he⟩ := hes es.l[i] (by simp)
      have hi' : es.l[i]? = some (t3 x y z) := by rw [List.getElem?_eq_getElem hi, he]
      have hin : t3 x y z ∈ es.l := List.mem_of_getElem? hi'
      obtain ⟨fr', e, hp', q1, q2⟩ := round109_0 (hand env1 d).1 (hand env1 d).2 ⟨K.ro, h.length⟩ (mask (env1.nvs 109) fr) h es i a b c x y z hi' hb (hp.mask _) hm (hR.mask (by kernel_rfl))
      refine ⟨fr', ?_⟩
      simp only [hi', Option.any_some]
      have hr0 : ((eqP (t3 a b c))) (t3 x y z) = ((decide (x = a ∧ y = b ∧ z = c))) := by unfold eqP t3; simp [eq_comm]
      rw [hr0]
      cases hr : ((decide (x = a ∧ y = b ∧ z = c))) with
      | true => rw [hr] at e q1; exact .inl ⟨rfl, e, i, q1 rfl⟩
      | false => rw [hr] at e q2; exact .inr ⟨rfl, e, hp'.drop _ _ _, (q2 rfl).drop (by kernel_rfl)⟩)
    (fun d fr hd ⟨hp, hR⟩ => exit109_0 (hand env1 d).1 (hand env1 d).2 ⟨K.ro, h.length⟩ (mask (env1.nvs 109) fr) h es a b c (hp.mask _) hm (hR.mask (by kernel_rfl)))
  obtain ⟨fr', h1 | h1⟩ := key es.l.length 0 fr d (by omega) (by omega) ⟨hp, hR⟩
  · refine ⟨fr', .inl ⟨?_, h1.2⟩⟩
    obtain ⟨j, _, hj, h2⟩ := h1.1
    rw [List.getElem?_eq_getElem hj] at h2
    exact List.any_eq_true.2 ⟨es.l[j], by simp, h2⟩
  · refine ⟨fr', .inr ⟨?_, h1.2⟩⟩
    rw [List.any_eq_false]
    intro x hx
    obtain ⟨j, hj, rfl⟩ := List.mem_iff_getElem.1 hx
    have := h1.1 j (by omega) hj
    rw [List.getElem?_eq_getElem hj] at this
    simpa using this

set_option maxRecDepth 100000 in
theorem run109 (es : SL) (a b c : Int) (hes : ∀ e ∈ es.l, ∃ x y z, e = t3 x y z) (hb : es.l.length < 2 ^ 40) (h : Heap) (hm : Pm ⟨[], h⟩) (K : Ctx) (d : Nat) (hd : es.l.length + 2 ≤ d) :
    (hand env1 d).1 K 109 [.p (es.v), .p (.agg [.i .i64 a, .i .i64 b, .i .i64 c])] h = some (.p (.b (inL es.l (t3 a b c))), h) := by
  obtain ⟨d, rfl⟩ : ∃ d', d = d' + 1 := ⟨d - 1, by omega⟩
  have hst : Pf (start [.p (es.v), .p (.agg [.i .i64 a, .i .i64 b, .i .i64 c])]) := Pf.start fun x hx => by
    simp only [List.mem_cons, List.mem_nil_iff, or_false] at hx
    rcases hx with rfl | rfl <;> rfl
  generalize hfr : start [.p (es.v), .p (.agg [.i .i64 a, .i .i64 b, .i .i64 c])] = fr at hst
  have g0 : rd fr 0 = .p (es.v) := by rw [← hfr, rd_start]; rfl
  have g1 : rd fr 1 = .p (.agg [.i .i64 a, .i .i64 b, .i .i64 c]) := by rw [← hfr, rd_start]; rfl
  have hm1 : Pm ⟨[[.p (.i .i64 a), .p (.i .i64 b), .p (.i .i64 c)]], h⟩ := ⟨(fun cs hc => by simp at hc; subst hc; rfl), hm.h⟩
  obtain ⟨fr', hL⟩ := loop109_0 es a b c hes hb h hm1 ⟨h.length, h.length⟩ (setF (setF (setF fr 3 (.lptr 0 0)) 4 (.p (.b false))) 5 (.p (.i .i64 0))) d (by omega) (hst.lp.p.p) (by simp (config := { maxDischargeDepth := 80 }) only [RD, evCode, evReg, evL, wantedV, evOp, argOf, cp, binV, intBin, putF, rd_setF, Option.map_some, Option.bind_some, if_true, Bool.true_or, decide_true, toB, takeS_pf, takeS_c, if_false, Pf.p, Pf.lp, Pf.pt, Pf.cl, Pf.nv, List.all_cons, List.all_nil, Bool.and_true, constV, constCell, nf1, ld, getCells, List.length_cons, List.length_nil, Nat.reduceEqDiff, reduceIte, Nat.reduceAdd, Nat.reduceLeDiff, List.take_succ_cons, List.take_zero, List.drop_zero, ofCells, mkAgg, mapO, V.isP, Bool.false_or, beq_self_eq_true, Bool.false_eq_true, cpL, vc_agg, vc_pagg, vc_i, PV.cells, List.map_cons, List.map_nil, Nat.zero_add, List.getElem?_cons_zero, List.getElem?_cons_succ, ↓SL.cells, ↓SL.vcells, ↓SL.cellOk, g0, g1, and_self, Int.natCast_zero]; try rfl)
  simp (config := { maxDischargeDepth := 80 }) only [lp109_0, loopsOf, bd109, Tryz.f109, List.getD_cons_zero, List.getD_cons_succ, List.nil_append, List.cons_append, List.append_nil] at hL
  rw [hand_fn (by kernel_rfl) (show env1.Q.fn 109 = some Tryz.f109 by kernel_rfl)]
  rw [inL_any]
  have body : ∃ fr2 m2, evCode env1 (hand env1 d).1 (hand env1 d).2 ⟨h.length, h.length⟩ 109 bd109 ⟨fr, ⟨[], h⟩⟩ = some (.ret, ⟨fr2, m2⟩) ∧ rd fr2 4 = .p (.b (es.l.any (eqP (t3 a b c)))) := by
    rcases hL with ⟨hin, hL, _, h4⟩ | ⟨hout, hL, hp', _⟩
    · simp (config := { maxDischargeDepth := 80 }) only [bd109, Tryz.f109, evCode, evReg, evL, wantedV, evOp, argOf, cp, binV, intBin, putF, rd_setF, Option.map_some, Option.bind_some, if_true, Bool.true_or, decide_true, toB, takeS_pf, takeS_c, if_false, Pf.p, Pf.lp, Pf.pt, Pf.cl, Pf.nv, List.all_cons, List.all_nil, Bool.and_true, constV, constCell, nf1, ld, getCells, List.length_cons, List.length_nil, Nat.reduceEqDiff, reduceIte, Nat.reduceAdd, Nat.reduceLeDiff, List.take_succ_cons, List.take_zero, List.drop_zero, ofCells, mkAgg, mapO, V.isP, Bool.false_or, beq_self_eq_true, Bool.false_eq_true, cpL, vc_agg, vc_pagg, vc_i, PV.cells, List.map_cons, List.map_nil, Nat.zero_add, List.getElem?_cons_zero, List.getElem?_cons_succ, ↓SL.cells, ↓SL.vcells, ↓SL.cellOk, evCall, evBuiltin, len109, z93, a93, g0, g1, hst, hm, hm1, and_self, newVarV, esc109, V.cellOk, Option.getD_some, List.nil_append, Bool.or_self, hL]
      exact ⟨_, _, rfl, by rw [h4, hin]⟩
    · simp (config := { maxDischargeDepth := 80 }) only [bd109, Tryz.f109, evCode, evReg, evL, wantedV, evOp, argOf, cp, binV, intBin, putF, rd_setF, Option.map_some, Option.bind_some, if_true, Bool.true_or, decide_true, toB, takeS_pf, takeS_c, if_false, Pf.p, Pf.lp, Pf.pt, Pf.cl, Pf.nv, List.all_cons, List.all_nil, Bool.and_true, constV, constCell, nf1, ld, getCells, List.length_cons, List.length_nil, Nat.reduceEqDiff, reduceIte, Nat.reduceAdd, Nat.reduceLeDiff, List.take_succ_cons, List.take_zero, List.drop_zero, ofCells, mkAgg, mapO, V.isP, Bool.false_or, beq_self_eq_true, Bool.false_eq_true, cpL, vc_agg, vc_pagg, vc_i, PV.cells, List.map_cons, List.map_nil, Nat.zero_add, List.getElem?_cons_zero, List.getElem?_cons_succ, ↓SL.cells, ↓SL.vcells, ↓SL.cellOk, evCall, evBuiltin, len109, z93, a93, g0, g1, hst, hm, hm1, and_self, newVarV, esc109, V.cellOk, Option.getD_some, List.nil_append, Bool.or_self, hL]
      exact ⟨_, _, rfl, by simp (config := { maxDischargeDepth := 80 }) only [evCode, evReg, evL, wantedV, evOp, argOf, cp, binV, intBin, putF, rd_setF, Option.map_some, Option.bind_some, if_true, Bool.true_or, decide_true, toB, takeS_pf, takeS_c, if_false, Pf.p, Pf.lp, Pf.pt, Pf.cl, Pf.nv, List.all_cons, List.all_nil, Bool.and_true, constV, constCell, nf1, ld, getCells, List.length_cons, List.length_nil, Nat.reduceEqDiff, reduceIte, Nat.reduceAdd, Nat.reduceLeDiff, List.take_succ_cons, List.take_zero, List.drop_zero, ofCells, mkAgg, mapO, V.isP, Bool.false_or, beq_self_eq_true, Bool.false_eq_true, cpL, vc_agg, vc_pagg, vc_i, PV.cells, List.map_cons, List.map_nil, Nat.zero_add, List.getElem?_cons_zero, List.getElem?_cons_succ, ↓SL.cells, ↓SL.vcells, ↓SL.cellOk, hout]⟩
  obtain ⟨fr2, m2, he, hv⟩ := body
  exact body2 (fn := Tryz.f109) (code := bd109) rfl (by kernel_rfl) rfl (by show (2 : Nat) ≤ Tryz.f109.ntmps; decide) (by rw [hfr]; exact he) (.inr rfl) hv

end Go.Wn
