/- Part of the proof: an evaluator of the model's code over pure trees, and what it computes. No condition of its own. -/
import Derived.Test.YtjpmhmpiglbioaaGreatDoorWb
import Derived.Laws.CopyRow
import Derived.Laws.Rows
import Derived.Laws.Tables
import Derived.Deep.AppendSrc
import Derived.Great.BuildSlice
import Derived.Laws.MakeOwn
set_option linter.unusedSimpArgs false
set_option linter.unusedVariables false
namespace Go.Wn
open Go

theorem Turn.setRow {w : World} {R : Nat} {ys ys' : Array Value} {T : TypeId} (h : w.heap[R]? = some (.cells ys T (0, 0))) (hs : ys'.size = ys.size) : Turn R w (w.setRow R ys') where
  rest := fun B hB => setRow_other w R B ys' hB
  size := size_setRow w R ys'
  sh := fun B zs T' f hb => by
    by_cases e : B = R
    · subst e
      rw [h] at hb
      cases hb
      exact ⟨ys', setRow_heap w B ys ys' T (0, 0) h, hs⟩
    · exact ⟨zs, by rw [setRow_other w R B ys' e]; exact hb, rfl⟩
  os := rfl
  tape := rfl
  output := rfl

theorem getD_splice {ys : Array Value} {vs : List Value} {o i : Nat} (h : o + vs.length ≤ ys.size) :
    (ys.toList.take o ++ vs ++ ys.toList.drop (o + vs.length)).toArray.getD i undef = if o ≤ i ∧ i < o + vs.length then vs.getD (i - o) undef else ys.getD i undef := by
  have hl : (ys.toList.take o).length = o := by simp; omega
  simp only [Array.getD_eq_getD_getElem?, List.getElem?_toArray, List.getD]
  rw [List.append_assoc, List.getElem?_append, hl]
  split
  · rename_i h1
    rw [List.getElem?_take, if_pos h1]
    simp [show ¬ (o ≤ i ∧ i < o + vs.length) from by omega]
  · rename_i h1
    rw [List.getElem?_append]
    split
    · rename_i h2
      simp [show o ≤ i ∧ i < o + vs.length from by omega]
    · rename_i h2
      rw [List.getElem?_drop, show o + vs.length + (i - o - vs.length) = i from by omega]
      simp [show ¬ (o ≤ i ∧ i < o + vs.length) from by omega]

theorem size_splice {ys : Array Value} {vs : List Value} {o : Nat} (h : o + vs.length ≤ ys.size) : (ys.toList.take o ++ vs ++ ys.toList.drop (o + vs.length)).toArray.size = ys.size := by
  simp; omega

theorem stv_some {K : Ctx} {m m' : Mem} {a : V} {vs : List V} (h : stv K m a vs = some m') : m' = putAt m a vs ∧ vs.all V.cellOk = true ∧ (∃ old, ld m a vs.length = some old) ∧ (∀ cs off, a ≠ .p (.ref cs off)) ∧
    (∀ b, ((∃ j, a = .ptr b j) ∨ (∃ i j v, a = .aptr b i j v)) → K.ro ≤ b ∧ (K.base ≤ b ∨ rbL 0 vs = true)) := by
  unfold stv at h
  split at h
  · rename_i b j
    split at h
    · rename_i cs hx
      split at h
      · rename_i hc
        simp only [Bool.and_eq_true, decide_eq_true_eq] at hc
        simp only [Option.some.injEq] at h
        subst h
        refine ⟨by simp [putAt, hx], hc.2, ⟨_, by simp [ld, hx, getCells, hc.1]; rfl⟩, by simp, fun b' hb => by rcases hb with ⟨j', e⟩ | ⟨i', j', v', e⟩ <;> cases e⟩
      · cases h
    · cases h
  · rename_i b j
    split at h
    · rename_i cs hx
      split at h
      · rename_i hc
        simp only [Bool.and_eq_true, decide_eq_true_eq, mayPut] at hc
        simp only [Option.some.injEq] at h
        subst h
        refine ⟨by simp [putAt, hx], hc.2.2, ⟨_, by simp [ld, hx, getCells, hc.1]; rfl⟩, by simp, fun b' hb => ?_⟩
        rcases hb with ⟨j', e⟩ | ⟨i', j', v', e⟩ <;> cases e
        exact ⟨hc.2.1.1, by simpa using hc.2.1.2⟩
      · cases h
    · cases h
  · rename_i b i j ver
    split at h
    · rename_i sz rs hx
      split at h
      · rename_i hc
        split at h
        · rename_i cs hr
          split at h
          · rename_i hle
            simp only [Bool.and_eq_true, decide_eq_true_eq, mayPut] at hc
            simp only [Option.some.injEq] at h
            subst h
            refine ⟨by simp [putAt, hx, hr], hc.2.2, ⟨_, by simp [ld, hx, hc.1, hr, getCells, hle]; rfl⟩, by simp, fun b' hb => ?_⟩
            rcases hb with ⟨j', e⟩ | ⟨i', j', v', e⟩ <;> cases e
            exact ⟨hc.2.1.1, by simpa using hc.2.1.2⟩
          · cases h
        · cases h
      · cases h
    · cases h
  · cases h

section
variable {P : Program} {E : Env} {K : Ctx} {o : Oper} {Cx : Nat → Nat} {g : Gh} {w : World} {a : Act} {fr : Fr} {m : Mem}

theorem run_newVar (t : TypeId) (v : Value) : (newVar t v).run P w = .ok ⟨w.heap.size, 0, none⟩ (w.alloc (.cells v.cells t)) := by
  simp only [newVar, newRow, Sem.run_bind, run_newObj, Result.andThen_ok, Sem.run_pure]
  rfl

/-- counts of a state after something was taken out of it: no block comes in -/
theorem took_len (h : Rel Cx g w a.tmps fr m) {fr' : Fr} {m' : Mem} {v : V} {y : Value} (hr : RelV Cx g w a.tmps fr' m' v y) : m'.h.length = m.h.length := by
  rw [← hr.hp.len, ← h.hp.len]

theorem old_more (h : Rel Cx g w a.tmps fr m) {h' : Heap} {x : Blk} {R : Option Nat} (hK : K.ro ≤ m.h.length) : ∀ b, b < K.ro → (g.more h' x R).ρ[b]? = g.ρ[b]? := fun b hb => by
  simp only [Gh.more]
  rw [List.getElem?_append_left (by rw [h.hp.len]; omega)]

/-- a new variable, out of a value at hand -/
theorem newVar_post (h : Rel Cx g w a.tmps fr m) (hK : K.ro ≤ m.h.length) {fr' : Fr} {m' : Mem} {v : V} {y : Value} (hr : RelV Cx g w a.tmps fr' m' v y) (hl : Lost fr fr') (hok : v.cells.all V.cellOk = true) (T : TypeId) (f : Nat) (hp : Bool) :
    ∃ g', Post E K o Cx g w a.tmps fr m ⟨(newVarV E f hp o m' v.cells).1, (newVarV E f hp o m' v.cells).2, fr'⟩ (.pointer (some ⟨w.heap.size, 0, none⟩)) g' (w.alloc (.cells y.cells T)) := by
  unfold newVarV
  split
  · obtain ⟨r1, st⟩ := hr.newVar hok T
    exact ⟨_, r1, Stp.alloc _ (fun B _ => rfl) st.ge (fun B hB => Dk_new h hB), hl, old_more h hK⟩
  · obtain ⟨r1, st⟩ := hr.newBox hok T
    exact ⟨_, r1, Stp.alloc _ (fun B _ => rfl) st.ge (fun B hB => Dk_new h hB), hl, fun _ _ => rfl⟩

theorem ok_alloc (hQ : TabOk P E.Q) (h : Rel Cx g w a.tmps fr m) (hK : K.ro ≤ m.h.length) (nf hp : Bool) (f : Nat) {t : TypeId} (ho : o.op = .alloc t) {z : List V} (hz : zeroCells E.Q nf t = some z) (hok : z.all V.cellOk = true) :
    OpOk P E K o Cx g w a fr m ⟨(newVarV E f hp o m z).1, (newVarV E f hp o m z).2, fr⟩ := by
  unfold zeroCells at hz
  split at hz
  · rename_i zv hq
    simp only [Option.some.injEq] at hz
    subst hz
    have hrep : RepV g w (.agg (zv.cells.toList.map (constCell nf))) (.agg zv.cells) := .agg _ _ (by simp) fun j c hj => by
      simp only [List.getElem?_map, Array.getElem?_toList, Option.map_eq_some_iff] at hj
      obtain ⟨d, hd, rfl⟩ := hj
      have : zv.cells.getD j undef = d := by simp [Array.getD_eq_getD_getElem?, hd]
      rw [this]
      exact rep_constCell g w nf d
    have hp0 : ∀ B, pm B (.agg (zv.cells.toList.map (constCell nf))) (.agg zv.cells) = 0 := fun B => by
      have keyL : ∀ (l : List Value) (ys : Array Value) (k : Nat), pmL B (l.map (constCell nf)) ys k = 0 := by
        intro l
        induction l with
        | nil => intro ys k; rfl
        | cons a l ih => intro ys k; simp only [List.map_cons, pmL]; rw [hasOwn_constCell, ih]
      simp only [pm]; exact keyL _ _ _
    obtain ⟨g', hpost⟩ := newVar_post (E := E) (o := o) h hK (h.withV0 hrep hp0) (.refl fr) hok t f hp
    intro next Qe hn
    unfold Oper.wp
    have : (execOp a.eval o).run P w = .ok (.value (.pointer (some ⟨w.heap.size, 0, none⟩))) (w.alloc (.cells zv.cells t)) := by
      simp only [execOp, ho, Instr.alloc, Sem.run_bind, run_zeroValue hQ hq, Result.andThen_ok]
      simp [run_newVar]
    rw [this]
    exact hn g' _ _ hpost
  · cases hz

theorem ok_box (hQ : TabOk P E.Q) (h : Rel Cx g w a.tmps fr m) (hK : K.ro ≤ m.h.length) {nf sq hp : Bool} {pre : List Oper} {S : Nat → Prop} (hi : Ids P E sq S pre fr a.tmps w) (f : Nat) {t : TypeId} {x : Operand} (hS : ∀ t, x = .tmp t → S t) (ho : o.op = .box t x) (hok : (takeS E nf sq K.ro pre fr m x).1.cells.all V.cellOk = true) :
    OpOk P E K o Cx g w a fr m ⟨(newVarV E f hp o (takeS E nf sq K.ro pre fr m x).2.1 (takeS E nf sq K.ro pre fr m x).1.cells).1, (newVarV E f hp o (takeS E nf sq K.ro pre fr m x).2.1 (takeS E nf sq K.ro pre fr m x).1.cells).2, (takeS E nf sq K.ro pre fr m x).2.2⟩ := by
  obtain ⟨h1, h2⟩ := takeS_rel (ds := a.defers) (nf := nf) (ro := K.ro) hQ h hi x hS
  obtain ⟨g', hpost⟩ := newVar_post (E := E) (o := o) h hK h1 h2 hok t f hp
  intro next Qe hn
  unfold Oper.wp
  have : (execOp a.eval o).run P w = .ok (.value (.pointer (some ⟨w.heap.size, 0, none⟩))) (w.alloc (.cells (a.eval x).cells t)) := by
    simp only [execOp, ho, Instr.box, Sem.run_bind, run_newVar, Result.andThen_ok, Sem.run_pure]
  rw [this]
  exact hn g' _ _ hpost

theorem ok_store (hQ : TabOk P E.Q) (h : Rel Cx g w a.tmps fr m) {nf sq : Bool} {pre : List Oper} {S : Nat → Prop} (hi : Ids P E sq S pre fr a.tmps w) {t : TypeId} {ad x : Operand} (hS : ∀ t, x = .tmp t → S t) (ho : o.op = .store t ad x) {n : Nat} (hn : E.Q.sz t = some n)
    (hlen : (takeS E nf sq K.ro pre fr m x).1.cells.length = n) {m' : Mem} (hs : stv K (takeS E nf sq K.ro pre fr m x).2.1 (argOf nf fr ad) (takeS E nf sq K.ro pre fr m x).1.cells = some m') :
    OpOk P E K o Cx g w a fr m ⟨.nov, m', (takeS E nf sq K.ro pre fr m x).2.2⟩ := by
  obtain ⟨h1, h2⟩ := takeS_rel (ds := a.defers) (nf := nf) (ro := K.ro) hQ h hi x hS
  generalize takeS E nf sq K.ro pre fr m x = q at *
  obtain ⟨v, m1, fr1⟩ := q
  simp only at *
  have had : RepV g w (argOf nf fr ad) (a.eval ad) := evA h nf ad
  obtain ⟨e1, hok, ⟨old, hld⟩, hnp, hro⟩ := stv_some hs
  subst e1
  obtain ⟨R, off, ys, T, hy, hat, hol, hcnt, H⟩ := h1.putAt had hld hnp (ds := v.cells) rfl
  obtain ⟨c1, c2, c3⟩ := h1.val.cells hok
  have e2 : (a.eval x).cells.toList.length = v.cells.length := by simpa using c1
  have hfit : off + (a.eval x).cells.toList.length ≤ ys.size := by rw [e2, ← hol]; exact hat.fits
  let ys' := (ys.toList.take off ++ (a.eval x).cells.toList ++ ys.toList.drop (off + (a.eval x).cells.toList.length)).toArray
  have hsz : ys'.size = ys.size := size_splice hfit
  have ht := Turn.setRow (ys' := ys') hat.blk hsz
  have hex : Exch R off v.cells.length w (w.setRow R ys') ys ys' T := ⟨ht, hat.blk, setRow_heap w R ys ys' T (0, 0) hat.blk, hsz, fun i hi' => by
    show ys'.getD i undef = _
    rw [getD_splice hfit, if_neg (by omega)]⟩
  have hnew : ∀ j, j < v.cells.length → ys'.getD (off + j) undef = (a.eval x).cells.getD j undef := fun j hj => by
    rw [getD_splice hfit, if_pos (by omega), show off + j - off = j from by omega]
    simp [List.getD, Array.getD_eq_getD_getElem?]
  obtain ⟨r1, r2⟩ := H _ ys' hex (fun st j c hj => by
    rw [hnew j (lt_of_get hj)]
    refine (c2 j c hj).mono st.fz st.sh st.ge fun B hB => rfl) .nov undef (fun _ => .nov) (fun B => by
      have : pmL B v.cells ys' off = pmL B v.cells (a.eval x).cells 0 := pmL_congr fun i hi' => by rw [hnew i hi', Nat.zero_add]
      rw [this, c3 B, pm_noown B .nov undef rfl]; omega)
  intro next Qe hnx
  unfold Oper.wp
  have hone : ∀ z ∈ (a.eval x).cells.toList, z.oneCell' = true := fun z hz => by
    obtain ⟨j, hj⟩ := List.getElem?_of_mem hz
    have hjl : j < v.cells.length := by have := lt_of_get hj; omega
    have hc := c2 j v.cells[j] (by simp [hjl])
    have he : (a.eval x).cells.getD j undef = z := by
      rw [Array.getElem?_toList] at hj
      simp [Array.getD_eq_getD_getElem?, hj]
    rw [he] at hc
    exact hc.one (by rw [List.all_eq_true] at hok; exact hok _ (by simp))
  have hrun : (execOp a.eval o).run P w = .ok .skip (w.setRow R ys') := by
    have hst := run_storeCells_at (P := P) R off T (a.eval x).cells.toList 0 ys w hat.blk (by simpa using hfit) hone
    simp only [Nat.add_zero] at hst
    have hne : ¬ ((a.eval x).cells.size ≠ n) := by rw [c1, hlen]; simp
    simp only [execOp, ho, Instr.storeAt, hy, Instr.sureAddr, Sem.run_bind, Sem.run_pure, Result.andThen_ok, storeVar, run_sizeOf hQ hn, if_neg hne, hst]
    rfl
  rw [hrun]
  have hD : Dk E K o Cx g w m R = 0 := by
    have hw : writesMem E o = true := by simp [writesMem, ho]
    have hst' : isStore o = true := by simp [isStore, ho]
    rcases hat.whose with ⟨b, j, cs, e, hb, hx⟩ | ⟨b, xb, e, hb, hx⟩
    · -- a box of the call's own: its length is the same before the take
      have hbl : b < m.lm.length := by
        have := lt_of_get hb
        rw [h.lm.len] at this; exact this
      exact Dk_box h (x := m.lm[b]) (by simp [hbl]) hb hst'
    · have hbl : b < m.h.length := by
        have := lt_of_get hb
        rw [h.hp.len] at this; exact this
      exact Dk_blk h (x := m.h[b]) (by simp [hbl]) hb (hro b e).1 hw
  exact hnx g _ undef ⟨r1, ht.stp hat.x0 hD, h2, fun _ _ => rfl⟩

end
end Go.Wn

namespace Go.Wn
open Go

theorem foldl_set (off : Nat) : ∀ (l : List Value) (k : Nat) (ys : Array Value), ((l.zipIdx k).foldl (fun cs (c, j) => cs.setIfInBounds (off + j) c) ys).size = ys.size ∧
    ∀ i, off + k + l.length ≤ ys.size → ((l.zipIdx k).foldl (fun cs (c, j) => cs.setIfInBounds (off + j) c) ys).getD i undef = if off + k ≤ i ∧ i < off + k + l.length then l.getD (i - (off + k)) undef else ys.getD i undef
  | [], k, ys => ⟨rfl, fun i _ => by simp [show ¬ (off + k ≤ i ∧ i < off + k) from by omega]⟩
  | c :: l, k, ys => by
    obtain ⟨h1, h2⟩ := foldl_set off l (k + 1) (ys.setIfInBounds (off + k) c)
    simp only [List.zipIdx_cons, List.foldl_cons, List.length_cons]
    refine ⟨by rw [h1]; simp, fun i hle => ?_⟩
    rw [h2 i (by simp; omega)]
    by_cases e1 : off + (k + 1) ≤ i ∧ i < off + (k + 1) + l.length
    · rw [if_pos e1, if_pos (by omega), show i - (off + k) = (i - (off + (k + 1))) + 1 from by omega]
      simp [List.getD]
    · rw [if_neg e1]
      by_cases e2 : i = off + k
      · subst e2
        rw [if_pos (by omega)]
        simp [List.getD, Array.getD_eq_getD_getElem?, show off + k < ys.size from by omega]
      · rw [if_neg (by omega)]
        simp only [Array.getD_eq_getD_getElem?]
        rw [Array.getElem?_setIfInBounds_ne (Ne.symm e2)]

/-- parts and what they are in the model -/
inductive PartsRel (g : Gh) (w : World) : List (Nat × V) → List (Nat × Value) → Prop
  | nil : PartsRel g w [] []
  | cons (i : Nat) (v : V) (y : Value) (ps : List (Nat × V)) (qs : List (Nat × Value)) (h : RepV g w v y) (hs : PartsRel g w ps qs) : PartsRel g w ((i, v) :: ps) ((i, y) :: qs)

def pmP (B : Nat) : List (Nat × V) → List (Nat × Value) → Nat
  | p :: ps, q :: qs => pm B p.2 q.2 + pmP B ps qs
  | _, _ => 0

theorem fill_rel {g : Gh} {w : World} {place place' : Nat → Option (Nat × Nat)} (hpl : ∀ i x, place i = some x → place' i = some x) :
    ∀ (ps : List (Nat × V)) (qs : List (Nat × Value)) (cs r : List V) (ys : Array Value), PartsRel g w ps qs → ys.size = cs.length → (∀ (j : Nat) (c : V), cs[j]? = some c → RepV g w c (ys.getD j undef)) →
      fillV place cs ps = some r → ∃ zs, Instr.fill place' ys qs = some zs ∧ zs.size = r.length ∧ (∀ (j : Nat) (c : V), r[j]? = some c → RepV g w c (zs.getD j undef)) ∧ (∀ B, pmL B r zs 0 ≤ pmL B cs ys 0 + pmP B ps qs) ∧ r.length = cs.length
  | [], qs, cs, r, ys, hp, hl, hc, h => by
    cases hp
    simp only [fillV, Option.some.injEq] at h
    subst h
    exact ⟨ys, rfl, hl, hc, fun B => by simp [pmP], rfl⟩
  | (i, v) :: ps, qs, cs, r, ys, hp, hl, hc, h => by
    cases hp with
    | cons i v y ps qs hv hs =>
      simp only [fillV] at h
      split at h
      · cases h
      · rename_i off size hpi
        split at h
        · rename_i hcnd
          obtain ⟨h1, h2, hok⟩ := hcnd
          obtain ⟨c1, c2, c3⟩ := hv.cells hok
          have hfit : off + v.cells.length ≤ cs.length := by omega
          obtain ⟨f1, f2⟩ := foldl_set off y.cells.toList 0 ys
          have e3 : y.cells.zipIdx.foldl (fun cs (c, j) => cs.setIfInBounds (off + j) c) ys = (y.cells.toList.zipIdx 0).foldl (fun cs (c, j) => cs.setIfInBounds (off + j) c) ys := by
            rw [← Array.foldl_toList, Array.toList_zipIdx]
          have hlen : y.cells.toList.length = v.cells.length := by simpa using c1
          have f2' : ∀ i, ((y.cells.toList.zipIdx 0).foldl (fun cs (c, j) => cs.setIfInBounds (off + j) c) ys).getD i undef = if off ≤ i ∧ i < off + v.cells.length then y.cells.getD (i - off) undef else ys.getD i undef := fun i => by
            have := f2 i (by omega)
            rw [hlen] at this
            simp only [Nat.add_zero] at this
            rw [this]
            split
            · simp [List.getD, Array.getD_eq_getD_getElem?]
            · rfl
          generalize hys : (y.cells.toList.zipIdx 0).foldl (fun cs (c, j) => cs.setIfInBounds (off + j) c) ys = ys' at f1 f2' e3
          obtain ⟨zs, z1, z2, z3, z4, z5⟩ := fill_rel hpl ps qs (setCells cs off v.cells) r ys' hs (by rw [f1, setCells_length hfit]; exact hl) (fun j c hj => by
            rcases setCells_get hfit hj with ⟨i1, i2, i3⟩ | ⟨i1, i2⟩
            · rw [f2' j, if_pos ⟨i1, i2⟩]; exact c2 _ _ i3
            · rw [f2' j, if_neg (by omega)]; exact hc _ _ i2) h
          refine ⟨zs, ?_, z2, z3, fun B => ?_, by rw [z5, setCells_length hfit]⟩
          · simp only [Instr.fill, hpl _ _ hpi]
            have : (y.cells.size ≠ size || off + y.cells.size > ys.size) = false := by
              simp; omega
            simp only [this, Bool.false_eq_true, if_false, e3]
            exact z1
          · have h4 := z4 B
            have h5 := pmL_setCells (B := B) (cs := cs) (ds := v.cells) (ys := ys) (ys' := ys') (j := off) (k := 0) hfit (fun i hi ho => by
              rw [Nat.zero_add, f2' i, if_neg (by omega)])
            simp only [Nat.zero_add] at h5
            have h6 : pmL B v.cells ys' off = pmL B v.cells y.cells 0 := pmL_congr fun i hi => by
              rw [f2' (off + i), if_pos (by omega), show off + i - off = 0 + i from by omega]
            rw [h6, c3 B] at h5
            simp only [pmP]
            omega
        · cases h

theorem all_sz {Q : Tab} {P : Program} (hQ : TabOk P Q) : ∀ (fs : List Field), (∀ f ∈ fs, (Q.sz f.type).isSome = true) → ∃ places : List (Nat × Nat), fs.mapM (fun f => (P.info? f.type).map fun i => (f.offset, i.size)) = some places ∧
    ∀ (i : Nat) (f : Field) (n : Nat), fs[i]? = some f → Q.sz f.type = some n → places[i]? = some (f.offset, n)
  | [], _ => ⟨[], by simp, by simp⟩
  | f :: fs, h => by
    obtain ⟨pl, h1, h2⟩ := all_sz hQ fs fun x hx => h x (by simp [hx])
    obtain ⟨n, hn⟩ := Option.isSome_iff_exists.1 (h f (by simp))
    obtain ⟨i, hi, hs⟩ := hQ.sz _ _ hn
    refine ⟨(f.offset, i.size) :: pl, by simp [List.mapM_cons, hi, h1], fun j x m hj hm => ?_⟩
    cases j with
    | zero =>
      simp at hj; subst hj
      rw [hn] at hm
      simp only [Option.some.injEq] at hm
      subst hm; subst hs; simp
    | succ j => simpa using h2 j x m (by simpa using hj) hm

theorem buildV_rel {P : Program} {Q : Tab} (hQ : TabOk P Q) {g : Gh} {w : World} {nf : Bool} {t : TypeId} {ps : List (Nat × V)} {qs : Array (Nat × Value)} (hp : PartsRel g w ps qs.toList) {v : V} (h : buildV Q nf t ps = some v) :
    ∃ y, (Instr.build t qs).run P w = .ok y w ∧ RepV g w v y ∧ ∀ B, pm B v y ≤ pmP B ps qs.toList := by
  unfold buildV at h
  simp only [Option.bind_eq_some_iff] at h
  obtain ⟨z, hz, h⟩ := h
  unfold zeroCells at hz
  split at hz
  · rename_i zv hq
    simp only [Option.some.injEq] at hz
    subst hz
    have hzr : ∀ (j : Nat) (c : V), (zv.cells.toList.map (constCell nf))[j]? = some c → RepV g w c (zv.cells.getD j undef) := fun j c hj => by
      simp only [List.getElem?_map, Array.getElem?_toList, Option.map_eq_some_iff] at hj
      obtain ⟨d, hd, rfl⟩ := hj
      have : zv.cells.getD j undef = d := by simp [Array.getD_eq_getD_getElem?, hd]
      rw [this]
      exact rep_constCell g w nf d
    have hp0 : ∀ B, pmL B (zv.cells.toList.map (constCell nf)) zv.cells 0 = 0 := fun B => by
      have keyL : ∀ (l : List Value) (ys : Array Value) (k : Nat), pmL B (l.map (constCell nf)) ys k = 0 := by
        intro l
        induction l with
        | nil => intro ys k; rfl
        | cons a l ih => intro ys k; simp only [List.map_cons, pmL]; rw [hasOwn_constCell, ih]
      exact keyL _ _ _
    obtain ⟨it, hit, hitz⟩ := hQ.zero _ _ hq
    have fin : ∀ (r : List V) (zs : Array Value), Instr.build t qs = Instr.build t qs → P.built t qs.toList = some zs → zs.size = r.length → (∀ (j : Nat) (c : V), r[j]? = some c → RepV g w c (zs.getD j undef)) → (∀ B, pmL B r zs 0 ≤ pmP B ps qs.toList) → mkAgg r = v →
        ∃ y, (Instr.build t qs).run P w = .ok y w ∧ RepV g w v y ∧ ∀ B, pm B v y ≤ pmP B ps qs.toList := by
      intro r zs _ hb hl hc hle e
      subst e
      exact ⟨.agg zs, run_build w t qs zs hb, RepV.mkAgg (.agg _ _ hl hc), fun B => by rw [pm_mkAgg]; simp only [pm]; exact hle B⟩
    split at h
    · rename_i fs hu
      split at h
      · rename_i hall
        simp only [Option.map_eq_some_iff] at h
        obtain ⟨r, hr, rfl⟩ := h
        obtain ⟨pl, p1, p2⟩ := all_sz hQ fs.toList fun f hf => Array.all_eq_true_iff_forall_mem.1 hall f (Array.mem_toList_iff.1 hf)
        obtain ⟨zs, z1, z2, z3, z4, _⟩ := fill_rel (place' := (pl.toArray[·]?)) (fun i x hx => by
          unfold placeS at hx
          cases hf : fs[i]? with
          | none => simp [hf] at hx
          | some f =>
            simp only [hf, Option.map_eq_some_iff] at hx
            obtain ⟨n, hn, rfl⟩ := hx
            have := p2 i f n (by simpa using hf) hn
            simpa using this) ps qs.toList _ r zv.cells hp (by simp) hzr hr
        refine fin r zs rfl ?_ z2 z3 (fun B => by have := z4 B; rw [hp0] at this; omega) rfl
        unfold Program.built
        simp only [hit, hQ.und _ _ hu, hitz, p1]
        exact z1
      · cases h
    · rename_i n e hu
      simp only [Option.bind_eq_some_iff, Option.map_eq_some_iff] at h
      obtain ⟨sz, hsz, r, hr, rfl⟩ := h
      obtain ⟨ie, hie, hs⟩ := hQ.sz _ _ hsz
      subst hs
      obtain ⟨zs, z1, z2, z3, z4, _⟩ := fill_rel (place' := fun i => some (i * ie.size, ie.size)) (fun i x hx => hx) ps qs.toList _ r zv.cells hp (by simp) hzr hr
      refine fin r zs rfl ?_ z2 z3 (fun B => by have := z4 B; rw [hp0] at this; omega) rfl
      unfold Program.built
      simp only [hit, hQ.und _ _ hu, hitz, hie]
      exact z1
    · cases h
  · cases hz

section
variable {P : Program} {E : Env} {K : Ctx} {o : Oper} {g : Gh} {w : World} {a : Act}

theorem RelV.toCx {Cx : Nat → Nat} {tm : Array Value} {fr : Fr} {m : Mem} {v : V} {y : Value} (h : RelV Cx g w tm fr m v y) : Rel (fun B => Cx B + pm B v y) g w tm fr m :=
  ⟨h.hp, h.lm, h.frm, fun B => by have := h.one B; omega, fun B hB => by
    have := h.cnt_lt hB
    omega⟩

theorem takesOf_rel (hQ : TabOk P E.Q) {nf sq : Bool} {S : Nat → Prop} {pre : List Oper} : ∀ (xs : List Operand) {Cx : Nat → Nat} {fr : Fr} {m : Mem}, Rel Cx g w a.tmps fr m → Ids P E sq S pre fr a.tmps w → (∀ t, Operand.tmp t ∈ xs → S t) →
    RelV Cx g w a.tmps (takesOf E nf sq K.ro pre fr m xs).2.2 (takesOf E nf sq K.ro pre fr m xs).2.1 (.tup (takesOf E nf sq K.ro pre fr m xs).1) (.tuple (xs.map a.eval).toArray) ∧ Lost fr (takesOf E nf sq K.ro pre fr m xs).2.2
  | [], Cx, fr, m, h, _, _ => by
    simp only [takesOf]
    exact ⟨h.withV0 (.tup [] #[] rfl (by simp)) (fun B => by simp [pm, pmL]), .refl fr⟩
  | x :: xs, Cx, fr, m, h, hi, hS => by
    simp only [takesOf]
    obtain ⟨h1, h2⟩ := takeS_rel (ds := a.defers) (nf := nf) (ro := K.ro) hQ h hi x fun t e => hS t (by simp [e])
    obtain ⟨h3, h4⟩ := takesOf_rel hQ xs h1.toCx (hi.lost h2) fun t ht => hS t (by simp [ht])
    refine ⟨⟨h3.hp, h3.lm, h3.frm, fun B => ?_, fun B hB => ?_, ?_⟩, h2.trans h4⟩
    · have h5 := h3.one B
      simp only [pm, pmL] at h5 ⊢
      have e1 : pmL B (takesOf E nf sq K.ro pre (takeS E nf sq K.ro pre fr m x).2.2 (takeS E nf sq K.ro pre fr m x).2.1 xs).1 ((x :: xs).map a.eval).toArray (0 + 1) = pmL B (takesOf E nf sq K.ro pre (takeS E nf sq K.ro pre fr m x).2.2 (takeS E nf sq K.ro pre fr m x).2.1 xs).1 (xs.map a.eval).toArray 0 := pmL_congr fun i hi => by
        simp only [Array.getD_eq_getD_getElem?, List.getElem?_toArray, List.map_cons]
        rw [show 0 + 1 + i = (0 + i) + 1 from by omega, List.getElem?_cons_succ]
      rw [e1]
      simp only [Array.getD_eq_getD_getElem?, List.getElem?_toArray, List.map_cons, List.getElem?_cons_zero, Option.getD_some] at h5 ⊢
      have : (Act.eval { tmps := a.tmps, defers := a.defers } x) = a.eval x := rfl
      rw [this] at h5
      omega
    · have := h3.cnew B hB; omega
    · obtain ⟨ys, e, hl, hc⟩ := tup_inv h3.val
      simp only [Value.tuple.injEq] at e
      refine .tup _ _ (by rw [← e] at hl; simp at hl ⊢; omega) fun j c hj => ?_
      cases j with
      | zero => simp at hj; subst hj; simpa [Array.getD_eq_getD_getElem?] using h1.val
      | succ j =>
        have := hc j c (by simpa using hj)
        rw [← e] at this
        simpa [Array.getD_eq_getD_getElem?] using this

theorem parts_of (is : List Nat) : ∀ (vs : List V) (ys : List Value), is.length = vs.length → ys.length = vs.length → (∀ (j : Nat) (c : V), vs[j]? = some c → RepV g w c (ys.toArray.getD j undef)) →
    PartsRel g w (is.zip vs) (is.zip ys) ∧ ∀ B, pmP B (is.zip vs) (is.zip ys) = pmL B vs ys.toArray 0 := by
  induction is with
  | nil =>
    intro vs ys h1 h2 _
    have : vs = [] := List.length_eq_zero_iff.1 (by simpa using h1.symm)
    subst this
    exact ⟨by simpa using PartsRel.nil, fun B => by simp [pmP, pmL]⟩
  | cons i is ih =>
    intro vs ys h1 h2 hc
    cases vs with
    | nil => simp at h1
    | cons v vs => cases ys with
      | nil => simp at h2
      | cons y ys =>
        obtain ⟨p1, p2⟩ := ih vs ys (by simpa using h1) (by simpa using h2) fun j c hj => by
          have := hc (j + 1) c (by simpa using hj)
          simpa [Array.getD_eq_getD_getElem?] using this
        have h0 := hc 0 v (by simp)
        simp only [Array.getD_eq_getD_getElem?, List.getElem?_toArray, List.getElem?_cons_zero, Option.getD_some] at h0
        refine ⟨by simpa using PartsRel.cons i v y _ _ h0 p1, fun B => ?_⟩
        simp only [List.zip_cons_cons, pmP, p2 B, pmL]
        simp only [Array.getD_eq_getD_getElem?, List.getElem?_toArray, List.getElem?_cons_zero, Option.getD_some]
        congr 1
        refine pmL_congr fun i hi => ?_
        simp only [Array.getD_eq_getD_getElem?, List.getElem?_toArray]
        rw [show 0 + 1 + i = (0 + i) + 1 from by omega, List.getElem?_cons_succ]

theorem parts_arr (parts : Array (Nat × Operand)) : (parts.map fun (i, x) => (i, a.eval x)).toList = (parts.toList.map (·.1)).zip ((parts.toList.map (·.2)).map a.eval) := by
  rw [Array.toList_map]
  induction parts.toList with
  | nil => rfl
  | cons x xs ih => simp [ih]

variable {Cx : Nat → Nat} {fr : Fr} {m : Mem}

theorem ok_build (hQ : TabOk P E.Q) (h : Rel Cx g w a.tmps fr m) {nf sq : Bool} {pre : List Oper} {S : Nat → Prop} (hi : Ids P E sq S pre fr a.tmps w) {t : TypeId} {parts : Array (Nat × Operand)} (hS : ∀ t, Operand.tmp t ∈ parts.toList.map (·.2) → S t) (ho : o.op = .build t parts) {v : V}
    (hv : buildV E.Q nf t ((parts.toList.map (·.1)).zip (takesOf E nf sq K.ro pre fr m (parts.toList.map (·.2))).1) = some v) :
    OpOk P E K o Cx g w a fr m ⟨v, (takesOf E nf sq K.ro pre fr m (parts.toList.map (·.2))).2.1, (takesOf E nf sq K.ro pre fr m (parts.toList.map (·.2))).2.2⟩ := by
  obtain ⟨h1, h2⟩ := takesOf_rel (K := K) (nf := nf) hQ (parts.toList.map (·.2)) h hi hS
  generalize takesOf E nf sq K.ro pre fr m (parts.toList.map (·.2)) = q at *
  obtain ⟨ys, e, hl, hc⟩ := tup_inv h1.val
  simp only [Value.tuple.injEq] at e
  subst e
  have hlen : q.1.length = parts.size := by simp at hl; omega
  obtain ⟨p1, p2⟩ := parts_of (g := g) (w := w) (parts.toList.map (·.1)) q.1 ((parts.toList.map (·.2)).map a.eval) (by simp; omega) (by simp; omega) hc
  rw [← parts_arr] at p1 p2
  obtain ⟨y, r1, r2, r3⟩ := buildV_rel hQ p1 hv
  refine .took (y := y) ?_ ⟨h1.hp, h1.lm, h1.frm, fun B => ?_, h1.cnew, r2⟩ h2
  · simp [execOp, ho, r1]
  · have := h1.one B
    have h3 := r3 B
    rw [p2 B] at h3
    simp only [pm] at this ⊢
    omega

theorem ok_build0 (hQ : TabOk P E.Q) (h : Rel Cx g w a.tmps fr m) (nf : Bool) {t : TypeId} {parts : Array (Nat × Operand)} (ho : o.op = .build t parts) {v : V}
    (hv : buildV E.Q nf t (parts.toList.map fun x => (x.1, argOf nf fr x.2)) = some v) : OpOk P E K o Cx g w a fr m ⟨v, m, fr⟩ := by
  have e1 : (parts.toList.map fun x => (x.1, argOf nf fr x.2)) = (parts.toList.map (·.1)).zip ((parts.toList.map (·.2)).map (argOf nf fr)) := by
    induction parts.toList with
    | nil => rfl
    | cons x xs ih => simp [ih]
  rw [e1] at hv
  obtain ⟨p1, p2⟩ := parts_of (g := g) (w := w) (parts.toList.map (·.1)) ((parts.toList.map (·.2)).map (argOf nf fr)) ((parts.toList.map (·.2)).map a.eval) (by simp) (by simp) (fun j c hj => by
    simp only [List.map_map, List.getElem?_map, Option.map_eq_some_iff] at hj
    obtain ⟨x, hx, rfl⟩ := hj
    simp only [Array.getD_eq_getD_getElem?, List.getElem?_toArray, List.map_map, List.getElem?_map, hx, Option.map_some, Option.getD_some, Function.comp]
    exact evA h nf x.2)
  rw [← parts_arr] at p1 p2
  obtain ⟨y, r1, r2, r3⟩ := buildV_rel hQ p1 hv
  refine .yield h (y := y) (by simp [execOp, ho, r1]) r2 fun B => ?_
  have h3 := r3 B
  rw [p2 B, pmL_args] at h3
  omega

theorem ok_makeMap (h : Rel Cx g w a.tmps fr m) (hK : K.ro ≤ m.h.length) {t : TypeId} (ho : o.op = .makeMap t none) : OpOk P E K o Cx g w a fr m ⟨.mp m.h.length, ⟨m.lm, m.h ++ [.map [] []]⟩, fr⟩ := by
  obtain ⟨r1, st⟩ := (RelV.of_rel h).newBlk (.map [] []) (.map #[] 0) (v' := .mp m.h.length) (y' := .map (some w.heap.size))
    (by rintro w1 g1 rfl rfl hf hs hg; exact ⟨#[], 0, heap_alloc_at w _, rfl, rfl, rfl, by simp, by simp⟩) (fun B => by simp [bcnt]) rfl
    (by rintro w1 g1 rfl rfl _; exact .mp _ _ (by simp [Gh.more, shp]) (by simp [Gh.more, ← h.hp.len]))
  intro next Qe hn
  unfold Oper.wp
  have : (execOp a.eval o).run P w = .ok (.value (.map (some w.heap.size))) (w.alloc (.map #[] 0)) := by
    simp only [execOp, ho, Instr.makeMap, Option.map_none, Sem.run_bind, Result.andThen_ok, run_newObj, Sem.run_pure]
    rfl
  rw [this]
  exact hn _ _ _ ⟨r1, Stp.alloc _ (fun B _ => rfl) st.ge (fun B hB => Dk_new h hB), .refl fr, old_more h hK⟩

end
end Go.Wn

namespace Go.Wn
open Go

/-- k cells, from an address on -/
def flatC (w : World) (B o k : Nat) : List Value := (List.range k).map fun q => (w.cell? ⟨B, o + q, none⟩).getD undef

theorem flatC_length (w : World) (B o k : Nat) : (flatC w B o k).length = k := by simp [flatC]
theorem flatC_get {w : World} {B o k q : Nat} {u : Value} (hq : q < k) (h : w.cell? ⟨B, o + q, none⟩ = some u) : (flatC w B o k)[q]? = some u := by
  simp [flatC, hq, h]

theorem split_ix {q n sz : Nat} (h : q < n * sz) : q / sz < n ∧ q % sz < sz ∧ q = q / sz * sz + q % sz := by
  have hsz : 0 < sz := by
    rcases Nat.eq_zero_or_pos sz with e | e
    · subst e; simp at h
    · exact e
  refine ⟨(Nat.div_lt_iff_lt_mul hsz).2 h, Nat.mod_lt _ hsz, ?_⟩
  have := Nat.div_add_mod q sz
  rw [Nat.mul_comm] at this; omega

theorem ix_lt {i j n sz : Nat} (hi : i < n) (hj : j < sz) : i * sz + j < n * sz := by
  have : (i + 1) * sz ≤ n * sz := Nat.mul_le_mul_right _ (by omega)
  rw [Nat.add_mul] at this; omega

/-- rows of cells and the cells appended -/
structure RowsRel (g : Gh) (w : World) (sz : Nat) (rs : List (List V)) (news : List Value) : Prop where
  len : news.length = rs.length * sz
  row : ∀ (i : Nat) (r : List V), rs[i]? = some r → r.length = sz
  rep : ∀ (i : Nat) (r : List V) (j : Nat) (c : V), rs[i]? = some r → r[j]? = some c → ∃ u, news[i * sz + j]? = some u ∧ RepV g w c u

theorem srcT_kind {P : Program} {Q : Tab} (hQ : TabOk P Q) {t : TypeId} (h : srcT Q t = true) : (∃ e', P.underlying t = some (.slice e')) ∨ P.underlying t = some .string := by
  unfold srcT at h
  cases e : Q.und t with
  | none => simp [e] at h
  | some d =>
    have := hQ.und _ _ e
    cases d <;> simp [e] at h
    · exact .inr this
    · exact .inl ⟨_, this⟩

section
variable {P : Program} {E : Env} {K : Ctx} {o : Oper} {Cx : Nat → Nat} {g : Gh} {w : World} {tm : Array Value} {fr : Fr} {m : Mem}

/-- a source of n rows behind an address -/
theorem Src.ofCells {sz : Nat} {tx : TypeId} (hk : (∃ e', P.underlying tx = some (.slice e')) ∨ P.underlying tx = some .string) {ad : Addr} {B o n c : Nat} (ha : n = 0 ∨ ad = ⟨B, o, none⟩)
    (hc : ∀ i j, i < n → j < sz → ∃ u, w.cell? ⟨B, o + (i * sz + j), none⟩ = some u ∧ u.oneCell' = true) : Src P sz tx (.slice (some ad) n c) n (flatC w B o (n * sz)) w := by
  have get : ∀ q, q < n * sz → ∃ u, (flatC w B o (n * sz))[q]? = some u ∧ w.cell? ⟨B, o + q, none⟩ = some u ∧ u.oneCell' = true := fun q hq => by
    obtain ⟨h1, h2, h3⟩ := split_ix hq
    obtain ⟨u, hu, h1⟩ := hc _ _ h1 h2
    rw [← h3] at hu
    exact ⟨u, flatC_get hq hu, hu, h1⟩
  have hcell : ∀ (j : Nat) (u : Value), (flatC w B o (n * sz))[j]? = some u → w.cell? (ad.add j) = some u := fun j u hj => by
    have hlt := lt_of_get hj
    rw [flatC_length] at hlt
    obtain ⟨u', e1, e2, _⟩ := get j hlt
    rw [e1] at hj
    simp only [Option.some.injEq] at hj
    subst hj
    rcases ha with h0 | ha
    · subst h0; simp at hlt
    · subst ha; rw [Addr.add_mid]; exact e2
  have hone : ∀ u ∈ flatC w B o (n * sz), u.oneCell' = true := fun u hu => by
    obtain ⟨j, hj⟩ := List.getElem?_of_mem hu
    have hlt := lt_of_get hj
    rw [flatC_length] at hlt
    obtain ⟨u', e1, _, e3⟩ := get j hlt
    rw [e1] at hj
    simp only [Option.some.injEq] at hj
    subst hj; exact e3
  refine ⟨hk, fun _ => rfl, ?_, ?_, flatC_length _ _ _ _, hone⟩
  · exact run_firstCells_some w sz n ad n c _ (flatC_length _ _ _ _) hcell
  · exact run_firstCells_some w.drew sz n ad n c _ (flatC_length _ _ _ _) (by simpa using hcell)

theorem Src.ofNone {sz : Nat} {tx : TypeId} (hk : (∃ e', P.underlying tx = some (.slice e')) ∨ P.underlying tx = some .string) (ad : Option Addr) (c : Nat) : Src P sz tx (.slice ad 0 c) 0 [] w := by
  cases ad with
  | none => exact ⟨hk, fun _ => rfl, run_firstCells_none w sz 0 0 c, run_firstCells_none w.drew sz 0 0 c, by simp, fun _ h => by cases h⟩
  | some a => exact ⟨hk, fun _ => rfl, run_firstCells_some w sz 0 a 0 c [] (by simp) (by simp), run_firstCells_some w.drew sz 0 a 0 c [] (by simp) (by simp), by simp, fun _ h => by cases h⟩

/-- the cells of a slice of a block -/
theorem sl_cells (h : Rel Cx g w tm fr m) {b off len ver sz : Nat} {rs : List (List V)} {y : Value} (hv : RepV g w (.sl b off len ver) y) (hb : m.h[b]? = some (.arr sz rs)) (hver : rs.length = ver) (hle : off + len ≤ ver) :
    ∃ ad cap B, y = .slice (some ad) len cap ∧ len ≤ cap ∧ g.ρ[b]? = some (some B) ∧ (len = 0 ∨ ad = ⟨B, off * sz, none⟩) ∧
      ∀ (i : Nat) (r : List V), ((rs.drop off).take len)[i]? = some r → r.length = sz ∧ ∀ (j : Nat) (c : V), r[j]? = some c → ∃ u, w.cell? ⟨B, off * sz + (i * sz + j), none⟩ = some u ∧ RepV g w c u := by
  cases hv with
  | sl b off len ver sz' n' ad cap hl hs hv' hB =>
    have hsh : g.sh b = some (sz, rs.length) := by rw [h.hp.sh]; simp [shp, hb]
    rw [hs] at hsh
    simp only [Option.some.injEq, Prod.mk.injEq] at hsh
    obtain ⟨e1, e2⟩ := hsh
    subst e1
    obtain ⟨B, ys, T, hρ, had, hblk, hsize⟩ := hB (by omega)
    obtain ⟨h0, ys2, T2, cap2, hblk2, hs2, hcap2, hz2, hc2⟩ := h.hp.blk b _ B hb hρ
    rw [hblk] at hblk2
    simp only [Option.some.injEq, Obj.cells.injEq] at hblk2
    obtain ⟨rfl, rfl, _⟩ := hblk2
    refine ⟨ad, cap, B, rfl, hl, hρ, ?_, fun i r hi => ?_⟩
    · rcases had with h1 | h1
      · left; omega
      · exact .inr h1
    · rw [List.getElem?_take] at hi
      split at hi
      · rw [List.getElem?_drop] at hi
        obtain ⟨l1, l2⟩ := hc2 _ r hi
        refine ⟨l1, fun j c hj => ⟨_, ?_, l2 j c hj⟩⟩
        have hlt : (off + i) * sz' + j < ys.size := by
          rw [hs2]
          exact ix_lt (by have := lt_of_get hi; omega) (by have := lt_of_get hj; omega)
        rw [show off * sz' + (i * sz' + j) = (off + i) * sz' + j from by rw [Nat.add_mul]; omega]
        simp only [World.cell?, hblk, Option.isSome_none, Bool.false_eq_true, if_false]
        simp [Array.getD_eq_getD_getElem?, hlt]
      · cases hi

theorem PV.one_of {w : World} {X : Nat → Nat} {x : PV} {y : Value} (h : RepP w X x y) (hc : x.cellOk = true) : y.oneCell' = true :=
  h.one fun cs e => by subst e; simp [PV.cellOk] at hc

/-- a pure list, cell by cell -/
theorem lst_src {sz : Nat} {tx : TypeId} (hk : (∃ e', P.underlying tx = some (.slice e')) ∨ P.underlying tx = some .string) {es : List PV} {y : Value} (h : RepP w g.X (.lst es) y) (hok : es.all (elOk sz) = true) :
    ∃ news, Src P sz tx y es.length news w ∧ ∀ (i : Nat) (e : PV) (j : Nat) (c : PV), es[i]? = some e → e.cells[j]? = some c → ∃ u, news[i * sz + j]? = some u ∧ RepP w g.X c u := by
  cases h with
  | lst es a cap sz' B off f ha hz hcap hc hr =>
    rcases ha with ha | ha
    · subst ha
      exact ⟨[], Src.ofNone hk a cap, by simp⟩
    · subst ha
      have hs : ∀ (i : Nat) (e : PV), es[i]? = some e → e.cells.length = sz ∧ sz' = sz ∧ e.cells.all PV.cellOk = true := fun i e he => by
        rw [List.all_eq_true] at hok
        have := hok e (List.mem_of_getElem? he)
        simp only [elOk, Bool.and_eq_true, beq_iff_eq] at this
        have h2 := hz i e he
        exact ⟨this.1, by omega, this.2⟩
      refine ⟨flatC w B off (es.length * sz), Src.ofCells hk (.inr rfl) fun i j hi hj => ?_, fun i e j c he hj => ?_⟩
      · have he : es[i]? = some es[i] := by simp [hi]
        obtain ⟨h1, h2, h3⟩ := hs i _ he
        have hcj : (es[i]).cells[j]? = some ((es[i]).cells[j]'(by omega)) := by simp [h1, hj]
        refine ⟨f i j, ?_, PV.one_of (hr i _ j _ he hcj) (by rw [List.all_eq_true] at h3; exact h3 _ (List.mem_of_getElem? hcj))⟩
        have := (hc i _ j _ he hcj).2
        rw [h2] at this; exact this
      · obtain ⟨h1, h2, h3⟩ := hs i e he
        refine ⟨f i j, flatC_get (ix_lt (lt_of_get he) (by have := lt_of_get hj; omega)) ?_, hr i e j c he hj⟩
        have := (hc i e j c he hj).2
        rw [h2] at this; exact this

theorem rowEl_some {r : List V} {e : PV} (h : rowEl r = some e) : r = e.cells.map V.p := by
  unfold rowEl at h
  split at h
  · rename_i x hx
    split at h
    · rename_i hc
      simp only [Option.some.injEq] at h
      subst h
      have := allP hx
      rw [this]
      cases x <;> simp [PV.cells, PV.cellOk] at hc ⊢
    · cases h
  · rename_i xs _ hx
    simp only [Option.some.injEq] at h
    subst h
    exact allP hx
  · cases h

/-- what is appended, pure -/
theorem src_pure (hQ : TabOk P E.Q) (h : Rel Cx g w tm fr m) {sz : Nat} {tx : TypeId} (htx : srcT E.Q tx = true) {v : V} {y : Value} (hv : RepV g w v y) {xs : List PV} (hx : pureList m.h v = some xs) (hok : xs.all (elOk sz) = true) :
    ∃ news, Src P sz tx y xs.length news w ∧ ∀ (i : Nat) (e : PV) (j : Nat) (c : PV), xs[i]? = some e → e.cells[j]? = some c → ∃ u, news[i * sz + j]? = some u ∧ RepP w g.X c u := by
  have hk := srcT_kind hQ htx
  unfold pureList at hx
  split at hx
  · simp only [Option.some.injEq] at hx; subst hx
    exact lst_src hk hv.p_inv hok
  · simp only [Option.some.injEq] at hx; subst hx
    exact lst_src hk hv.cp.p_inv hok
  · simp only [Option.some.injEq] at hx; subst hx
    rw [hv.nils_inv]
    exact ⟨[], Src.ofNone hk none 0, by simp⟩
  · rename_i l
    simp only [Option.some.injEq] at hx; subst hx
    rw [hv.s_inv]
    by_cases h0 : l = []
    · subst h0
      refine ⟨[], ⟨hk, fun _ => rfl, ?_, ?_, by simp, fun _ h => by cases h⟩, by simp⟩
      · simp [Builtin.firstCells]
      · simp [Builtin.firstCells]
    · have hsz : sz = 1 := by
        cases l with
        | nil => exact absurd rfl h0
        | cons c l =>
          simp only [List.map_cons, List.all_cons, Bool.and_eq_true, elOk, beq_iff_eq, PV.cells] at hok
          simpa using hok.1.1.symm
      subst hsz
      have e1 : (⟨l.toArray⟩ : ByteArray).size = l.length := by simp [ByteArray.size]
      have e2 : byteCells ⟨l.toArray⟩ = l.map fun b => Value.int .u8 b.toNat := by simp [byteCells]
      refine ⟨byteCells ⟨l.toArray⟩, ⟨hk, fun _ => (by simp [Builtin.lenOf, e1]), ?_, ?_, by rw [byteCells_length, e1]; simp, fun u hu => ?_⟩, fun i e j c he hj => ?_⟩
      · have := firstCells_string (P := P) ⟨l.toArray⟩ w
        rw [e1] at this
        simpa using this
      · have := firstCells_string (P := P) ⟨l.toArray⟩ w.drew
        rw [e1] at this
        simpa using this
      · rw [e2] at hu
        obtain ⟨_, _, rfl⟩ := List.mem_map.1 hu
        rfl
      · simp only [List.getElem?_map, Option.map_eq_some_iff] at he
        obtain ⟨b, hb, rfl⟩ := he
        simp only [PV.cells] at hj
        cases j with
        | succ j => simp at hj
        | zero =>
          simp at hj; subst hj
          refine ⟨.int .u8 b.toNat, ?_, .i _ _⟩
          rw [e2]
          simp [hb]
  · rename_i b off len ver
    split at hx
    · rename_i sz' rs hb
      split at hx
      · rename_i hc
        obtain ⟨ad, cap, B, rfl, hl, hρ, had, hcells⟩ := sl_cells h hv hb hc.1 hc.2
        obtain ⟨ml, mg⟩ := mapO_some hx
        have hlen : xs.length = len := by rw [ml]; simp; omega
        have row : ∀ (i : Nat) (e : PV), xs[i]? = some e → ∃ r, ((rs.drop off).take len)[i]? = some r ∧ r = e.cells.map V.p ∧ sz' = sz ∧ e.cells.length = sz ∧ e.cells.all PV.cellOk = true := fun i e he => by
          have hi := lt_of_get he
          have hr : ((rs.drop off).take len)[i]? = some (((rs.drop off).take len)[i]'(by omega)) := List.getElem?_eq_getElem (by omega)
          obtain ⟨e', h1, h2⟩ := mg i _ hr
          rw [he] at h1
          simp only [Option.some.injEq] at h1
          subst h1
          have h3 := rowEl_some h2
          rw [List.all_eq_true] at hok
          have h4 := hok e (List.mem_of_getElem? he)
          simp only [elOk, Bool.and_eq_true, beq_iff_eq] at h4
          have h5 := (hcells i _ hr).1
          rw [h3] at h5
          simp at h5
          exact ⟨_, hr, h3, by omega, h4.1, h4.2⟩
        rw [← hlen] at had ⊢
        refine ⟨flatC w B (off * sz') (xs.length * sz), Src.ofCells hk had fun i j hi hj => ?_, fun i e j c he hj => ?_⟩
        · have he : xs[i]? = some xs[i] := by simp [hi]
          obtain ⟨r, hr, e1, e2, e3, e4⟩ := row i _ he
          subst e2
          have hcj : (xs[i]).cells[j]? = some ((xs[i]).cells[j]'(by omega)) := by simp [e3, hj]
          obtain ⟨u, hu, hru⟩ := (hcells i r hr).2 j (.p _) (by rw [e1, List.getElem?_map, hcj]; rfl)
          exact ⟨u, hu, PV.one_of hru.p_inv (by rw [List.all_eq_true] at e4; exact e4 _ (List.mem_of_getElem? hcj))⟩
        · obtain ⟨r, hr, e1, e2, e3, e4⟩ := row i _ he
          subst e2
          obtain ⟨u, hu, hru⟩ := (hcells i r hr).2 j (.p c) (by rw [e1, List.getElem?_map, hj]; rfl)
          exact ⟨u, flatC_get (ix_lt (lt_of_get he) (by have := lt_of_get hj; omega)) hu, hru.p_inv⟩
      · cases hx
    · cases hx
  · cases hx

/-- what is appended, row by row -/
theorem src_rows (hQ : TabOk P E.Q) (h : Rel Cx g w tm fr m) {sz : Nat} {tx : TypeId} (htx : srcT E.Q tx = true) {v : V} {y : Value} (hv : RepV g w v y) {rs : List (List V)} (hx : rowsIn m.h v = some rs) (hok : rs.all (rowOk sz) = true) :
    ∃ news, Src P sz tx y rs.length news w ∧ RowsRel g w sz rs news ∧ ∀ r, r ∈ rs → ∀ B ys k, pmL B r ys k = 0 := by
  have hk := srcT_kind hQ htx
  unfold rowsIn at hx
  split at hx
  · rename_i b off len ver
    split at hx
    · rename_i sz' rs' hb
      split at hx
      · rename_i hc
        simp only [Option.some.injEq] at hx
        subst hx
        obtain ⟨ad, cap, B, rfl, hl, hρ, had, hcells⟩ := sl_cells h hv hb hc.1 hc.2
        have hlen : (((rs'.drop off).take len).map cpL).length = len := by simp; omega
        have row : ∀ (i : Nat) (r : List V), (((rs'.drop off).take len).map cpL)[i]? = some r → ∃ r0, ((rs'.drop off).take len)[i]? = some r0 ∧ r = cpL r0 ∧ sz' = sz ∧ r.length = sz ∧ r.all V.cellOk = true := fun i r hr => by
          rw [List.all_eq_true] at hok
          have h4 := hok r (List.mem_of_getElem? hr)
          simp only [rowOk, Bool.and_eq_true, beq_iff_eq] at h4
          rw [List.getElem?_map, Option.map_eq_some_iff] at hr
          obtain ⟨r0, h0, rfl⟩ := hr
          have h5 := (hcells i r0 h0).1
          rw [cpL_length] at h4
          exact ⟨r0, h0, rfl, by omega, by rw [cpL_length]; exact h4.1, h4.2⟩
        rw [hlen]
        refine ⟨flatC w B (off * sz') (len * sz), Src.ofCells hk had fun i j hi hj => ?_, ⟨by rw [flatC_length, hlen], fun i r hr => (row i r hr).choose_spec.2.2.2.1, fun i r j c hr hj => ?_⟩, fun r hr B ys k => ?_⟩
        · obtain ⟨r, hr⟩ : ∃ r, (((rs'.drop off).take len).map cpL)[i]? = some r := ⟨_, List.getElem?_eq_getElem (by omega)⟩
          obtain ⟨r0, h0, e1, e2, e3, e4⟩ := row i _ hr
          subst e2
          obtain ⟨c, hcj⟩ : ∃ c, r[j]? = some c := ⟨_, List.getElem?_eq_getElem (by omega)⟩
          have hcj2 := hcj
          rw [e1, cpL_get, Option.map_eq_some_iff] at hcj2
          obtain ⟨d, hd, hd2⟩ := hcj2
          obtain ⟨u, hu, hru⟩ := (hcells i r0 h0).2 j d hd
          refine ⟨u, hu, (hru.cp).one ?_⟩
          rw [hd2]
          rw [List.all_eq_true] at e4
          exact e4 _ (List.mem_of_getElem? hcj)
        · obtain ⟨r0, h0, e1, e2, e3, e4⟩ := row i r hr
          subst e2
          subst e1
          have hjl := lt_of_get hj
          rw [cpL_get, Option.map_eq_some_iff] at hj
          obtain ⟨d, hd, rfl⟩ := hj
          obtain ⟨u, hu, hru⟩ := (hcells i r0 h0).2 j d hd
          have hil := lt_of_get hr
          rw [hlen] at hil
          exact ⟨u, flatC_get (ix_lt hil (by omega)) hu, hru.cp⟩
        · obtain ⟨r0, _, rfl⟩ := List.mem_map.1 hr
          exact pmL_noown B _ ys k (hasOwnL_cp r0)
      · cases hx
    · cases hx
  · rename_i hns
    simp only [Option.map_eq_some_iff] at hx
    obtain ⟨xs, hxs, rfl⟩ := hx
    have hok' : xs.all (elOk sz) = true := by
      rw [List.all_eq_true] at hok ⊢
      intro e he
      have := hok (e.cells.map V.p) (List.mem_map.2 ⟨e, he, rfl⟩)
      simp only [rowOk, Bool.and_eq_true, beq_iff_eq, List.length_map, List.all_map] at this
      simp only [elOk, Bool.and_eq_true, beq_iff_eq]
      refine ⟨this.1, ?_⟩
      rw [List.all_eq_true] at this ⊢
      intro c hc
      have := this.2 c hc
      cases c <;> first | rfl | simp [V.cellOk] at this
    obtain ⟨news, hs, hr⟩ := src_pure hQ h htx hv hxs hok'
    have hl : (rowsOf xs).length = xs.length := by simp [rowsOf]
    refine ⟨news, by rw [hl]; exact hs, ⟨by rw [hl]; exact hs.newsLen, fun i r hi => ?_, fun i r j c hi hj => ?_⟩, fun r hr B ys k => ?_⟩
    · simp only [rowsOf, List.getElem?_map, Option.map_eq_some_iff] at hi
      obtain ⟨e, he, rfl⟩ := hi
      rw [List.all_eq_true] at hok'
      have := hok' e (List.mem_of_getElem? he)
      simp only [elOk, Bool.and_eq_true, beq_iff_eq] at this
      simpa using this.1
    · simp only [rowsOf, List.getElem?_map, Option.map_eq_some_iff] at hi
      obtain ⟨e, he, rfl⟩ := hi
      rw [List.getElem?_map, Option.map_eq_some_iff] at hj
      obtain ⟨d, hd, rfl⟩ := hj
      obtain ⟨u, h1, h2⟩ := hr i e j d he hd
      exact ⟨u, h1, .p _ _ h2⟩
    · simp only [rowsOf, List.mem_map] at hr
      obtain ⟨e, _, rfl⟩ := hr
      have : ∀ l : List PV, hasOwnL (l.map V.p) = false := by intro l; induction l with
        | nil => rfl
        | cons x xs ih => simp [hasOwnL, hasOwn, ih]
      exact pmL_noown B _ ys k (this e.cells)

end
end Go.Wn

namespace Go.Wn
open Go

theorem Stp.drew (D : Nat → Nat) (g : Gh) (w : World) : Stp D g w g w.drew where
  fz := ⟨fun _ _ _ h1 h2 => ⟨h1, h2⟩, fun _ _ _ h1 h2 => ⟨h1, h2⟩⟩
  sh := fun _ ys _ _ h => ⟨ys, h, rfl⟩
  kp := fun _ _ => ⟨rfl, rfl⟩
  ge := .refl g
  os := rfl
  tape := rfl
  output := rfl
  size := Nat.le_refl _

section
variable {P : Program} {E : Env} {K : Ctx} {o : Oper} {Cx : Nat → Nat} {g : Gh} {w : World} {tm : Array Value} {fr : Fr} {m : Mem}

theorem Rel.drew (h : Rel Cx g w tm fr m) : Rel Cx g w.drew tm fr m :=
  h.step (.drew _ g w) rfl rfl rfl (fun B hB => h.hp.new B hB) (fun B hB => h.cnew B hB)

/-- the ghost with one block's frozen part turned -/
def Gh.froze (g : Gh) (N k : Nat) : Gh := { g with X := fun B => if B = N then k else g.X B }

theorem GhLe.froze (g : Gh) (N k : Nat) : GhLe g (g.froze N k) :=
  ⟨fun _ _ h => h, fun _ _ h h' => ⟨h, h'⟩, fun _ _ n h => ⟨n, h, Nat.le_refl _, fun _ _ h => h⟩, fun _ h => ⟨h, rfl⟩⟩

/-- a new list of the call's own -/
theorem Rel.newOwn (h : Rel Cx g w tm fr m) {es : List PV} (hne : es ≠ []) {zs : Array Value} (T : TypeId) {cap sz : Nat} (hsz : zs.size = cap * sz) (hcap : es.length ≤ cap) (hz : ∀ e ∈ es, e.cells.length = sz)
    (hr : ∀ (i : Nat) (e : PV) (j : Nat) (c : PV), es[i]? = some e → e.cells[j]? = some c → RepP w g.X c (zs.getD (i * sz + j) undef)) :
    RelV Cx (g.froze w.heap.size (es.length * sz)) (w.alloc (.cells zs T)) tm fr m (.own es) (.slice (some ⟨w.heap.size, 0, none⟩) es.length cap) ∧
      ∀ D : Nat → Nat, (∀ B, w.heap.size ≤ B → D B = 0) → Stp D g w (g.froze w.heap.size (es.length * sz)) (w.alloc (.cells zs T)) := by
  have st : ∀ D : Nat → Nat, (∀ B, w.heap.size ≤ B → D B = 0) → Stp D g w (g.froze w.heap.size (es.length * sz)) (w.alloc (.cells zs T)) := fun D hD =>
    Stp.alloc _ (fun B hB => by simp [Gh.froze, hB]) (GhLe.froze g _ _) hD
  have stF := st (fun B => fcnt B fr tm + lcnt B w m.lm g.lam + hcnt B w m.h g.ρ + Cx B) fun B hB => by
    have := (RelV.of_rel h).cnt_lt hB; omega
  have h' := h.step stF rfl rfl rfl (fun B hB => by
    have : B ≠ w.heap.size := by simp at hB; omega
    simp only [Gh.froze, this, if_false]
    exact h.hp.new B (by simp at hB; omega)) (fun B hB => h.cnew B (by simp at hB; omega))
  have k2 : Kp (fun B => lcnt B w m.lm g.lam) w (w.alloc (.cells zs T)) g.X (g.froze w.heap.size (es.length * sz)).X := (stF.mono fun B => by omega).kp
  have k3 : Kp (fun B => hcnt B w m.h g.ρ) w (w.alloc (.cells zs T)) g.X (g.froze w.heap.size (es.length * sz)).X := (stF.mono fun B => by omega).kp
  refine ⟨⟨h'.hp, h'.lm, h'.frm, fun B => ?_, h'.cnew, ?_⟩, st⟩
  · have h1 := h.one B
    have e1 : hcnt B (w.alloc (.cells zs T)) m.h (g.froze w.heap.size (es.length * sz)).ρ = hcnt B w m.h g.ρ := HeapRel.cnt_keep k3 B
    have e2 : lcnt B (w.alloc (.cells zs T)) m.lm (g.froze w.heap.size (es.length * sz)).lam = lcnt B w m.lm g.lam := LmRel.cnt_keep k2 B
    rw [e1, e2]
    simp only [pm]
    split
    · rename_i e
      have := (RelV.of_rel h).cnt_lt (B := B) (by omega)
      omega
    · omega
  · refine .own es cap sz w.heap.size hne (.lst es _ cap sz w.heap.size 0 (fun i j => zs.getD (i * sz + j) undef) (.inr rfl) (fun i e he => hz e (List.mem_of_getElem? he)) hcap (fun i e j c he hj => ?_) (fun i e j c he hj => (hr i e j c he hj).mono stF.fz)) hz ?_
    · have hlt := ix_lt (sz := sz) (lt_of_get he) (by have := lt_of_get hj; rw [hz e (List.mem_of_getElem? he)] at this; exact this)
      have hle : es.length * sz ≤ cap * sz := Nat.mul_le_mul_right _ hcap
      refine ⟨by simp [Gh.froze]; exact hlt, ?_⟩
      simp only [Nat.zero_add, World.cell?, heap_alloc_at, Option.isSome_none, Bool.false_eq_true, if_false]
      simp [Array.getD_eq_getD_getElem?, show i * sz + j < zs.size from by omega]
    · exact ⟨by simp [Gh.froze], ⟨zs, T, heap_alloc_at w _, hsz⟩, hcap⟩

/-- a new array of the heap -/
theorem Rel.newArr (h : Rel Cx g w tm fr m) {rs : List (List V)} {zs : Array Value} (T : TypeId) {cap sz : Nat} (hs0 : 0 < sz) (hsz : zs.size = cap * sz) (hcap : rs.length ≤ cap) (hrow : ∀ (i : Nat) (r : List V), rs[i]? = some r → r.length = sz)
    (hr : ∀ (i : Nat) (r : List V) (j : Nat) (c : V), rs[i]? = some r → r[j]? = some c → RepV g w c (zs.getD (i * sz + j) undef)) (hp : ∀ r, r ∈ rs → ∀ B ys k, pmL B r ys k = 0) :
    RelV Cx (g.more m.h (.arr sz rs) (some w.heap.size)) (w.alloc (.cells zs T)) tm fr ⟨m.lm, (newArr m.h sz rs).2⟩ (newArr m.h sz rs).1 (.slice (some ⟨w.heap.size, 0, none⟩) rs.length cap) ∧
      ∀ D : Nat → Nat, (∀ B, w.heap.size ≤ B → D B = 0) → Stp D g w (g.more m.h (.arr sz rs) (some w.heap.size)) (w.alloc (.cells zs T)) := by
  obtain ⟨r1, st⟩ := (RelV.of_rel h).newBlk (.arr sz rs) (.cells zs T) (v' := .sl m.h.length 0 rs.length rs.length) (y' := .slice (some ⟨w.heap.size, 0, none⟩) rs.length cap)
    (by
      rintro w1 g1 rfl rfl hf hs hg
      refine ⟨zs, T, cap, heap_alloc_at w _, hsz, hcap, hs0, fun i r hi => ⟨hrow i r hi, fun j c hj => (hr i r j c hi hj).mono hf hs hg fun B hB => rfl⟩⟩)
    (fun B => by
      simp only [bcnt]
      rw [Sm_congr (f := fun _ => 0) (fun i hi => ?_)]
      · have : ∀ n, Sm n (fun _ => 0) = 0 := by intro n; induction n with
          | zero => rfl
          | succ n ih => simp [Sm, ih]
        rw [this]; omega
      · have : rs.getD i [] = rs[i] := by simp [List.getD, hi]
        rw [this]
        exact hp _ (by simp) B _ _) rfl
    (by
      rintro w1 g1 rfl rfl _
      refine .sl _ 0 _ _ sz rs.length _ cap hcap (by simp [Gh.more, shp]) (Nat.le_refl _) fun _ => ⟨w.heap.size, zs, T, by simp [Gh.more, ← h.hp.len], .inr (by simp), heap_alloc_at w _, by rw [Nat.zero_add]; exact hsz.symm⟩)
  exact ⟨r1, fun D hD => Stp.alloc _ (fun B _ => rfl) st.ge hD⟩

/-- an array that moves to a larger block -/
theorem Rel.growArr (h : Rel Cx g w tm fr m) {b R sz cap n : Nat} {r0 r1 : List (List V)} (hb : m.h[b]? = some (.arr sz r0)) (hR : g.ρ[b]? = some (some R)) {zs : Array Value} (T : TypeId) (hn : r1.length = n) (hlt : r0.length < n) (hs0 : 0 < sz) (hsz : zs.size = cap * sz) (hcap : n ≤ cap)
    (hrow : ∀ (i : Nat) (r : List V), r1[i]? = some r → r.length = sz)
    (hr : ∀ (i : Nat) (r : List V) (j : Nat) (c : V), r1[i]? = some r → r[j]? = some c → RepV g w c (zs.getD (i * sz + j) undef))
    (hp : ∀ B, (Sm n fun i => pmL B (r1.getD i []) zs (i * sz)) ≤ bcnt B w R (.arr sz r0)) :
    ∃ g', (∀ c, c ≠ b → g'.ρ[c]? = g.ρ[c]?) ∧ RelV Cx g' (w.alloc (.cells zs T)) tm fr ⟨m.lm, m.h.set b (.arr sz r1)⟩ (.sl b 0 n r1.length) (.slice (some ⟨w.heap.size, 0, none⟩) n cap) ∧
      ∀ D : Nat → Nat, (∀ B, w.heap.size ≤ B → D B = 0) → Stp D g w g' (w.alloc (.cells zs T)) := by
  have hbl := lt_of_get hb
  have hbρ := lt_of_get hR
  let g' : Gh := { g with ρ := g.ρ.set b (some w.heap.size), sh := shp (m.h.set b (.arr sz r1)) }
  have shc : ∀ c, c ≠ b → shp (m.h.set b (.arr sz r1)) c = shp m.h c := fun c hc => by unfold shp; rw [List.getElem?_set_ne (Ne.symm hc)]
  have shb : shp (m.h.set b (.arr sz r1)) b = some (sz, n) := by unfold shp; rw [List.getElem?_set_self hbl]; simp [hn]
  have shb0 : shp m.h b = some (sz, r0.length) := by simp [shp, hb]
  have ge : GhLe g g' := by
    refine ⟨fun _ _ h => h, fun c B e1 e2 => ?_, fun c s k e => ?_, fun c e => ?_⟩
    · have hc : c ≠ b := by rintro rfl; rw [h.hp.sh, shb0] at e1; cases e1
      refine ⟨?_, ?_⟩
      · show shp (m.h.set b (.arr sz r1)) c = none
        rw [shc c hc, ← h.hp.sh]; exact e1
      · show (g.ρ.set b _)[c]? = _
        rw [List.getElem?_set_ne (Ne.symm hc)]; exact e2
    · by_cases hc : c = b
      · subst hc
        rw [h.hp.sh, shb0] at e
        simp only [Option.some.injEq, Prod.mk.injEq] at e
        obtain ⟨rfl, rfl⟩ := e
        exact ⟨n, shb, by omega, fun e => by omega⟩
      · refine ⟨k, ?_, Nat.le_refl _, fun _ B hB => ?_⟩
        · show shp (m.h.set b (.arr sz r1)) c = _
          rw [shc c hc, ← h.hp.sh]; exact e
        · show (g.ρ.set b _)[c]? = _
          rw [List.getElem?_set_ne (Ne.symm hc)]; exact hB
    · have hc : c ≠ b := by rintro rfl; rw [hR] at e; cases e
      exact ⟨by show (g.ρ.set b _)[c]? = _; rw [List.getElem?_set_ne (Ne.symm hc)]; exact e, rfl⟩
  have st : ∀ D : Nat → Nat, (∀ B, w.heap.size ≤ B → D B = 0) → Stp D g w g' (w.alloc (.cells zs T)) := fun D hD => Stp.alloc _ (fun B hB => rfl) ge hD
  have stF := st (fun B => fcnt B fr tm + lcnt B w m.lm g.lam + hcnt B w m.h g.ρ + Cx B) fun B hB => by
    have := (RelV.of_rel h).cnt_lt hB; omega
  have k2 : Kp (fun B => lcnt B w m.lm g.lam) w (w.alloc (.cells zs T)) g.X g'.X := (stF.mono fun B => by omega).kp
  have up : ∀ {v : V} {y : Value}, RepV g w v y → RepV g' (w.alloc (.cells zs T)) v y := fun hv => hv.mono stF.fz stF.sh stF.ge fun B _ => rfl
  refine ⟨g', fun c hc => by show (g.ρ.set b _)[c]? = _; rw [List.getElem?_set_ne (Ne.symm hc)], ⟨⟨rfl, by simp [g', h.hp.len], fun c xc S hxc hS => ?_, fun c hS => ?_, fun B hB => h.hp.new B (by simp at hB; omega)⟩,
    h.lm.mono stF.fz stF.sh stF.ge rfl k2, fun t => up (h.frm t), fun B => ?_, fun B hB => h.cnew B (by simp at hB; omega), ?_⟩, st⟩
  · by_cases hc : c = b
    · subst hc
      have : S = w.heap.size := by
        have : (g.ρ.set c (some w.heap.size))[c]? = some (some S) := hS
        rw [List.getElem?_set_self hbρ] at this
        simp only [Option.some.injEq] at this
        exact this.symm
      subst this
      have hxc' : (m.h.set c (.arr sz r1))[c]? = some xc := hxc
      rw [List.getElem?_set_self hbl] at hxc'
      simp only [Option.some.injEq] at hxc'
      subst hxc'
      exact ⟨h.hp.new _ (Nat.le_refl _), zs, T, cap, heap_alloc_at w _, hsz, by omega, hs0, fun i r hi => ⟨hrow i r hi, fun j c hj => up (hr i r j c hi hj)⟩⟩
    · have hS' : g.ρ[c]? = some (some S) := by
        have : (g.ρ.set b (some w.heap.size))[c]? = some (some S) := hS
        rwa [List.getElem?_set_ne (Ne.symm hc)] at this
      have hxc' : m.h[c]? = some xc := by
        have : (m.h.set b (.arr sz r1))[c]? = some xc := hxc
        rwa [List.getElem?_set_ne (Ne.symm hc)] at this
      obtain ⟨h0, h1⟩ := h.hp.blk c xc S hxc' hS'
      exact ⟨h0, h1.mono stF.fz stF.sh stF.ge (heap_alloc_lt w _ h1.lt) fun B _ => rfl⟩
  · have hc : c ≠ b := by
      rintro rfl
      have : (g.ρ.set c (some w.heap.size))[c]? = some none := hS
      rw [List.getElem?_set_self hbρ] at this
      cases this
    have hS' : g.ρ[c]? = some none := by
      have : (g.ρ.set b (some w.heap.size))[c]? = some none := hS
      rwa [List.getElem?_set_ne (Ne.symm hc)] at this
    show (m.h.set b (.arr sz r1))[c]? = _
    rw [List.getElem?_set_ne (Ne.symm hc)]
    exact h.hp.un c hS'
  · have h1 := h.one B
    have h2 := hp B
    rw [LmRel.cnt_keep k2 B]
    have h3 : hcnt B (w.alloc (.cells zs T)) (m.h.set b (.arr sz r1)) (g.ρ.set b (some w.heap.size)) + ((if R = B then 1 else 0) + bcnt B w R (.arr sz r0)) = hcnt B w m.h g.ρ + ((if w.heap.size = B then 1 else 0) + bcnt B (w.alloc (.cells zs T)) w.heap.size (.arr sz r1)) := by
      unfold hcnt
      rw [List.length_set]
      have := Sm_upd (n := m.h.length) (d := b) (f := hterm B w m.h g.ρ) (f' := fun c => if c < m.h.length then hterm B (w.alloc (.cells zs T)) (m.h.set b (.arr sz r1)) (g.ρ.set b (some w.heap.size)) c else hterm B w m.h g.ρ c) hbl (fun c hc => by
        by_cases hlt : c < m.h.length
        · simp only [hlt, if_true]
          unfold hterm
          rw [getD_set_ne hc, getD_set_ne hc]
          cases hS : g.ρ[c]? with
          | none => simp [List.getD, hS]
          | some s => cases s with
            | none => simp [List.getD, hS]
            | some S =>
              obtain ⟨xc, hxc⟩ : ∃ xc, m.h[c]? = some xc := ⟨_, List.getElem?_eq_getElem hlt⟩
              have hl := (h.hp.blk c xc S hxc hS).2.lt
              have := conc_eq (heap_alloc_lt w (.cells zs T) hl)
              simp only [List.getD, hS, Option.getD_some]
              cases (m.h[c]?).getD default <;> simp [bcnt, this]
        · simp only [hlt, if_false])
      rw [Sm_congr (n := m.h.length) (f := hterm B (w.alloc (.cells zs T)) (m.h.set b (.arr sz r1)) (g.ρ.set b (some w.heap.size))) (f' := fun c => if c < m.h.length then hterm B (w.alloc (.cells zs T)) (m.h.set b (.arr sz r1)) (g.ρ.set b (some w.heap.size)) c else hterm B w m.h g.ρ c) (fun c hc => by simp only [hc, if_true])] at this
      simp only [hbl, if_true] at this
      rw [hterm_some hb hR, hterm_some (h := m.h.set b (.arr sz r1)) (x := .arr sz r1) (R := w.heap.size) (by simp [hbl]) (by simp [hbρ])] at this
      omega
    have h4 : bcnt B (w.alloc (.cells zs T)) w.heap.size (.arr sz r1) = Sm n fun i => pmL B (r1.getD i []) zs (i * sz) := by
      simp only [bcnt, conc_new, hn]
    show fcnt B fr tm + lcnt B w m.lm g.lam + hcnt B (w.alloc (.cells zs T)) (m.h.set b (.arr sz r1)) (g.ρ.set b (some w.heap.size)) + pm B (.sl b 0 n r1.length) (.slice (some ⟨w.heap.size, 0, none⟩) n cap) + Cx B ≤ 1
    have h5 : pm B (.sl b 0 n r1.length) (.slice (some ⟨w.heap.size, 0, none⟩) n cap) = 0 := by simp [pm]
    rw [h5]
    by_cases e : w.heap.size = B
    · have h6 := (RelV.of_rel h).cnt_lt (B := B) (by omega)
      have h7 := h.hp.blk b _ R hb hR
      have hRl := h7.2.lt
      have h8 : bcnt B w R (.arr sz r0) = 0 := by
        have := Sm_get (n := m.h.length) (d := b) (f := hterm B w m.h g.ρ) hbl
        rw [hterm_some hb hR] at this
        unfold hcnt at h6
        omega
      subst e
      rw [if_neg (show ¬ R = w.heap.size by omega), if_pos rfl] at h3
      omega
    · simp only [e, if_false] at h3
      omega
  · refine .sl b 0 n r1.length sz n _ cap hcap shb (by omega) fun _ => ⟨w.heap.size, zs, T, ?_, .inr (by simp), heap_alloc_at w _, by rw [Nat.zero_add]; exact hsz.symm⟩
    show (g.ρ.set b _)[b]? = _
    rw [List.getElem?_set_self hbρ]

end
end Go.Wn

namespace Go.Wn
open Go

theorem putAt_old {m : Mem} {a : V} {ds : List V} {ro : Nat} (h : ownsAt ro a = true) : (putAt m a ds).h.take ro = m.h.take ro ∧ (putAt m a ds).h.length = m.h.length := by
  unfold putAt
  split
  · split <;> exact ⟨rfl, rfl⟩
  · rename_i b j
    simp only [ownsAt, decide_eq_true_eq] at h
    split
    · refine ⟨?_, by simp⟩
      simp only
      rw [List.take_set_of_le h]
    · exact ⟨rfl, rfl⟩
  · rename_i b i j v
    simp only [ownsAt, decide_eq_true_eq] at h
    split
    · split
      · refine ⟨?_, by simp⟩
        simp only
        rw [List.take_set_of_le h]
      · exact ⟨rfl, rfl⟩
    · exact ⟨rfl, rfl⟩
  · exact ⟨rfl, rfl⟩

theorem unown_old {m : Mem} {a : V} {n ro : Nat} (h : ownsAt ro a = true) : (unown m a n).h.take ro = m.h.take ro := by
  unfold unown
  split
  · split <;> rfl
  · rename_i b j
    simp only [ownsAt, decide_eq_true_eq] at h
    split
    · simp only
      rw [List.take_set_of_le h]
    · rfl
  · rename_i b i j v
    simp only [ownsAt, decide_eq_true_eq] at h
    split
    · split
      · simp only
        rw [List.take_set_of_le h]
      · rfl
    · rfl
  · rfl

theorem takeS_old {E : Env} {nf sq : Bool} {ro : Nat} {pre : List Oper} {fr : Fr} {m : Mem} (x : Operand) : (takeS E nf sq ro pre fr m x).2.1.h.take ro = m.h.take ro := by
  cases x with
  | tmp t =>
    simp only [takeS]
    split
    · rfl
    · split
      · split <;> rfl
      · split
        · split
          · rfl
          · split
            · rfl
            · split
              · rename_i hc
                simp only [Bool.and_eq_true] at hc
                split
                · exact unown_old hc.2
                · rfl
              · rfl
        · rfl
  | _ => rfl

section
variable {P : Program} {E : Env} {K : Ctx} {o : Oper} {Cx : Nat → Nat} {g : Gh} {w : World} {tm : Array Value} {fr : Fr} {m : Mem}

/-- a list of the call's own grows where it lies -/
theorem RelV.ownGrow {es xs : List PV} {len cap B sz : Nat} (h : RelV Cx g w tm fr m (.own es) (.slice (some ⟨B, 0, none⟩) len cap)) (hne : es ≠ []) (hsz : ∀ e ∈ es, e.cells.length = sz) (hxz : ∀ e ∈ xs, e.cells.length = sz) {news : List Value} (hnl : news.length = xs.length * sz)
    (hnew : ∀ (i : Nat) (e : PV) (j : Nat) (c : PV), xs[i]? = some e → e.cells[j]? = some c → ∃ u, news[i * sz + j]? = some u ∧ RepP w g.X c u) (hroom : len + xs.length ≤ cap) :
    ∃ ys T, w.heap[B]? = some (.cells ys T (0, 0)) ∧ len = es.length ∧ len * sz + news.length ≤ ys.size ∧
      RelV Cx (g.froze B ((len + xs.length) * sz)) (w.setRow B (ys.toList.take (len * sz) ++ news ++ ys.toList.drop (len * sz + news.length)).toArray) tm fr m (.own (es ++ xs)) (.slice (some ⟨B, 0, none⟩) (len + xs.length) cap) ∧
      ∀ D : Nat → Nat, D B = 0 → Stp D g w (g.froze B ((len + xs.length) * sz)) (w.setRow B (ys.toList.take (len * sz) ++ news ++ ys.toList.drop (len * sz + news.length)).toArray) := by
  have hv := h.val
  generalize hyv : Value.slice (some ⟨B, 0, none⟩) len cap = yv at hv
  cases hv with
  | own0 => exact absurd rfl hne
  | own _ cap' sz' B' _ hl hz ho =>
    simp only [Value.slice.injEq, Option.some.injEq, Addr.mk.injEq] at hyv
    obtain ⟨⟨rfl, -, -⟩, rfl, rfl⟩ := hyv
    have hs : sz' = sz := by
      cases es with
      | nil => exact absurd rfl hne
      | cons e es => have h1 := hz e (by simp); have h2 := hsz e (by simp); omega
    subst hs
    obtain ⟨ys, T, hb, hys⟩ := ho.blk
    have hfit : es.length * sz' + news.length ≤ ys.size := by
      rw [hnl, hys, ← Nat.add_mul]; exact Nat.mul_le_mul_right _ hroom
    refine ⟨ys, T, hb, rfl, hfit, ?_⟩
    generalize hzs : (ys.toList.take (es.length * sz') ++ news ++ ys.toList.drop (es.length * sz' + news.length)).toArray = zs
    have hzsz : zs.size = ys.size := by rw [← hzs]; exact size_splice hfit
    have hget : ∀ i, zs.getD i undef = if es.length * sz' ≤ i ∧ i < es.length * sz' + news.length then news.getD (i - es.length * sz') undef else ys.getD i undef := fun i => by rw [← hzs]; exact getD_splice hfit
    have ht := Turn.setRow (ys' := zs) hb hzsz
    have hB : B < w.heap.size := lt_size hb
    have st : ∀ D : Nat → Nat, D B = 0 → Stp D g w (g.froze B ((es.length + xs.length) * sz')) (w.setRow B zs) := fun D hD =>
      { fz := ⟨fun B' i y hi hy => by
          by_cases e : B' = B
          · subst e
            have hX := ho.end_
            rw [hX] at hi
            refine ⟨by simp only [Gh.froze, if_true]; have : es.length * sz' ≤ (es.length + xs.length) * sz' := Nat.mul_le_mul_right _ (by omega)
                       omega, ?_⟩
            rw [cell_setRow_same w B' i ys zs T (0, 0) hb]
            simp only [World.cell?, hb, Option.isSome_none, Bool.false_eq_true, if_false] at hy
            have hlt : i < ys.size := by
              rcases Nat.lt_or_ge i ys.size with h | h
              · exact h
              · rw [Array.getElem?_eq_none h] at hy; cases hy
            have h1 := hget i
            rw [if_neg (by omega)] at h1
            simp only [Array.getD_eq_getD_getElem?, hy, Option.getD_some] at h1
            rw [Array.getElem?_eq_getElem (by omega)] at h1 ⊢
            simpa using h1
          · refine ⟨by simp only [Gh.froze, if_neg e]; exact hi, ?_⟩
            rw [cell_setRow_other w B zs _ e]; exact hy, fun S es' ck hm hx => by
          have hne' : S ≠ B := by rintro rfl; rw [hb] at hm; cases hm
          exact ⟨by rw [ht.rest S hne']; exact hm, by simp only [Gh.froze, if_neg hne']; exact hx⟩⟩
        sh := ht.sh
        kp := fun B' hB' => by
          have hne' : B' ≠ B := by rintro rfl; omega
          exact ⟨ht.rest B' hne', by simp only [Gh.froze, if_neg hne']⟩
        ge := GhLe.froze g _ _
        os := rfl
        tape := rfl
        output := rfl
        size := by rw [ht.size]; exact Nat.le_refl _ }
    have hpm : pm B (.own es) (.slice (some ⟨B, 0, none⟩) es.length cap) = 1 := by simp [pm, hne]
    have h1 := h.one B
    rw [hpm] at h1
    have stF := st (fun B => fcnt B fr tm + lcnt B w m.lm g.lam + hcnt B w m.h g.ρ + Cx B) (by omega)
    have h' := h.rel.step stF rfl rfl rfl (fun B' hB' => by
      rw [ht.size] at hB'
      have hne' : B' ≠ B := by omega
      simp only [Gh.froze, if_neg hne']
      exact h.hp.new B' hB') (fun B' hB' => h.cnew B' (by rw [ht.size] at hB'; exact hB'))
    have k2 : Kp (fun B => lcnt B w m.lm g.lam) w (w.setRow B zs) g.X (g.froze B ((es.length + xs.length) * sz')).X := (stF.mono fun B => by omega).kp
    have k3 : Kp (fun B => hcnt B w m.h g.ρ) w (w.setRow B zs) g.X (g.froze B ((es.length + xs.length) * sz')).X := (stF.mono fun B => by omega).kp
    refine ⟨⟨h'.hp, h'.lm, h'.frm, fun B' => ?_, h'.cnew, ?_⟩, st⟩
    · have h2 := h.one B'
      have e1 : hcnt B' (w.setRow B zs) m.h (g.froze B ((es.length + xs.length) * sz')).ρ = hcnt B' w m.h g.ρ := HeapRel.cnt_keep k3 B'
      have e2 : lcnt B' (w.setRow B zs) m.lm (g.froze B ((es.length + xs.length) * sz')).lam = lcnt B' w m.lm g.lam := LmRel.cnt_keep k2 B'
      rw [e1, e2]
      have e3 : pm B' (.own (es ++ xs)) (.slice (some ⟨B, 0, none⟩) (es.length + xs.length) cap) = pm B' (.own es) (.slice (some ⟨B, 0, none⟩) es.length cap) := by simp [pm, hne]
      rw [e3]; exact h2
    · have hlen : (es ++ xs).length = es.length + xs.length := List.length_append
      have hall : ∀ e ∈ es ++ xs, e.cells.length = sz' := fun e he => by
        rcases List.mem_append.1 he with h | h
        · exact hsz e h
        · exact hxz e h
      have hne2 : es ++ xs ≠ [] := by simp [hne]
      have key : RepV (g.froze B ((es.length + xs.length) * sz')) (w.setRow B zs) (.own (es ++ xs)) (.slice (some ⟨B, 0, none⟩) (es ++ xs).length cap) := by
        refine .own (es ++ xs) cap sz' B hne2 (.lst (es ++ xs) _ cap sz' B 0 (fun i j => zs.getD (i * sz' + j) undef) (.inr rfl) (fun i e he => hall e (List.mem_of_getElem? he)) (by rw [hlen]; exact hroom) (fun i e j c he hj => ?_) (fun i e j c he hj => ?_)) hall ?_
        · have hi := lt_of_get he
          rw [hlen] at hi
          have hlt := ix_lt (sz := sz') hi (by have := lt_of_get hj; rw [hall e (List.mem_of_getElem? he)] at this; exact this)
          have hle : (es.length + xs.length) * sz' ≤ cap * sz' := Nat.mul_le_mul_right _ hroom
          refine ⟨by simp only [Gh.froze, if_true, Nat.zero_add]; exact hlt, ?_⟩
          rw [Nat.zero_add, cell_setRow_same w B _ ys zs T (0, 0) hb]
          simp [Array.getD_eq_getD_getElem?, show i * sz' + j < zs.size from by omega]
        · have hjl : j < sz' := by have := lt_of_get hj; rw [hall e (List.mem_of_getElem? he)] at this; exact this
          rw [List.getElem?_append] at he
          split at he
          · rename_i hi
            have hlt := ix_lt (sz := sz') hi hjl
            rw [hget, if_neg (by omega)]
            cases hl with
            | lst _ _ _ sz2 B2 off2 f ha hz2 hcap hc hr =>
              rcases ha with ha | ha
              · exact absurd ha hne
              · simp only [Option.some.injEq, Addr.mk.injEq] at ha
                obtain ⟨rfl, rfl, -⟩ := ha
                have hs2 : sz2 = sz' := by have h1 := hz2 i e he; have h2 := hsz e (List.mem_of_getElem? he); omega
                subst hs2
                have h3 := (hc i e j c he hj).2
                rw [Nat.zero_add] at h3
                simp only [World.cell?, hb, Option.isSome_none, Bool.false_eq_true, if_false] at h3
                have h4 : ys.getD (i * sz2 + j) undef = f i j := by simp [Array.getD_eq_getD_getElem?, h3]
                rw [h4]
                exact (hr i e j c he hj).mono stF.fz
          · rename_i hi
            have hil := lt_of_get he
            obtain ⟨u, hu, hru⟩ := hnew (i - es.length) e j c he hj
            have hul := lt_of_get hu
            have e5 : i * sz' + j - es.length * sz' = (i - es.length) * sz' + j := by
              rw [Nat.sub_mul]
              have : es.length * sz' ≤ i * sz' := Nat.mul_le_mul_right _ (by omega)
              omega
            have e6 : es.length * sz' ≤ i * sz' + j := by
              have : es.length * sz' ≤ i * sz' := Nat.mul_le_mul_right _ (by omega)
              omega
            rw [hget, if_pos ⟨e6, by omega⟩, e5]
            have : news.getD ((i - es.length) * sz' + j) undef = u := by simp [List.getD, hu]
            rw [this]
            exact hru.mono stF.fz
        · exact ⟨by simp only [Gh.froze, if_true, hlen], ⟨zs, T, setRow_heap w B ys zs T (0, 0) hb, by rw [hzsz]; exact hys⟩, by rw [hlen]; exact hroom⟩
      rw [hlen] at key
      exact key

/-- 'append' where there is room -/
theorem run_append_row {t tx ty e : TypeId} {i : TypeInfo} (ht : P.underlying t = some (.slice e)) (hi : P.info? e = some i) {b off sLen sCap : Nat} {x : Value} {n : Nat} {news : List Value} (hs : Src P i.size tx x n news w) (hroom : sLen + n ≤ sCap)
    {ys : Array Value} {T : TypeId} (hb : w.heap[b]? = some (.cells ys T (0, 0))) (hfit : off + sLen * i.size + news.length ≤ ys.size) :
    (Builtin.append_ #[t, tx] ty #[.slice (some ⟨b, off, none⟩) sLen sCap, x]).run P w = .ok (.slice (some ⟨b, off, none⟩) (sLen + n) sCap) (w.setRow b (ys.toList.take (off + sLen * i.size) ++ news ++ ys.toList.drop (off + sLen * i.size + news.length)).toArray) := by
  have hst := run_storeCells_at (P := P) b (off + sLen * i.size) T news 0 ys w hb (by simpa using hfit) hs.one
  simp only [Nat.add_zero] at hst
  rcases hs.kind with ⟨e', hk⟩ | hk <;> simp [Builtin.append_, run_underlying ht, run_underlying hk, sizeOf, typeInfo, hi, hs.len, hroom, hs.cells, Addr.add_mid, hst]

/-- nothing is appended to an empty slice -/
theorem run_append_none {t tx ty e : TypeId} {i : TypeInfo} (ht : P.underlying t = some (.slice e)) (hi : P.info? e = some i) {base : Option Addr} {x : Value} (hs : Src P i.size tx x 0 [] w) :
    (Builtin.append_ #[t, tx] ty #[.slice base 0 0, x]).run P w = .ok (.slice base 0 0) w := by
  rcases hs.kind with ⟨e', hk⟩ | hk <;> cases base <;> simp [Builtin.append_, run_underlying ht, run_underlying hk, sizeOf, typeInfo, hi, hs.len, hs.cells, storeCells]

end
end Go.Wn

namespace Go.Wn
open Go

section
variable {P : Program} {E : Env} {K : Ctx} {o : Oper} {Cx : Nat → Nat} {g : Gh} {w : World} {tm : Array Value} {fr : Fr} {m : Mem}

/-- an array whose rows turn where they lie; it may grow into its spare room -/
theorem Rel.turnArr (h : Rel Cx g w tm fr m) {b R sz cap n : Nat} {r0 r1 : List (List V)} (hb : m.h[b]? = some (.arr sz r0)) (hR : g.ρ[b]? = some (some R)) {w' : World} (ht : Turn R w w') {zs : Array Value} {T : TypeId} (hnew : w'.heap[R]? = some (.cells zs T (0, 0)))
    (hle : r0.length ≤ r1.length) (hn : n ≤ cap) (hs0 : 0 < sz) (hsz : zs.size = cap * sz) (hcap : r1.length ≤ cap) {ad : Addr} (had : cap = 0 ∨ ad = ⟨R, 0, none⟩)
    (hrow : ∀ (i : Nat) (r : List V), r1[i]? = some r → r.length = sz)
    (hr : ∀ (i : Nat) (r : List V) (j : Nat) (c : V), r1[i]? = some r → r[j]? = some c → RepV g w c (zs.getD (i * sz + j) undef))
    (hp : ∀ B, (Sm r1.length fun i => pmL B (r1.getD i []) zs (i * sz)) ≤ bcnt B w R (.arr sz r0)) :
    ∃ g', (∀ c : Nat, g'.ρ[c]? = g.ρ[c]?) ∧ RelV Cx g' w' tm fr ⟨m.lm, m.h.set b (.arr sz r1)⟩ (.sl b 0 n r1.length) (.slice (some ad) n cap) ∧
      ∀ D : Nat → Nat, D R = 0 → Stp D g w g' w' := by
  have hbl := lt_of_get hb
  obtain ⟨hX, hbr⟩ := h.hp.blk b _ R hb hR
  let g' : Gh := { g with sh := shp (m.h.set b (.arr sz r1)) }
  have shc : ∀ c, c ≠ b → shp (m.h.set b (.arr sz r1)) c = shp m.h c := fun c hc => by unfold shp; rw [List.getElem?_set_ne (Ne.symm hc)]
  have shb : shp (m.h.set b (.arr sz r1)) b = some (sz, r1.length) := by unfold shp; rw [List.getElem?_set_self hbl]
  have shb0 : shp m.h b = some (sz, r0.length) := by simp [shp, hb]
  have ge : GhLe g g' := by
    refine ⟨fun _ _ h => h, fun c B e1 e2 => ?_, fun c s k e => ?_, fun c e => ⟨e, rfl⟩⟩
    · have hc : c ≠ b := by rintro rfl; rw [h.hp.sh, shb0] at e1; cases e1
      refine ⟨?_, e2⟩
      show shp (m.h.set b (.arr sz r1)) c = none
      rw [shc c hc, ← h.hp.sh]; exact e1
    · by_cases hc : c = b
      · subst hc
        rw [h.hp.sh, shb0] at e
        simp only [Option.some.injEq, Prod.mk.injEq] at e
        obtain ⟨rfl, rfl⟩ := e
        exact ⟨r1.length, shb, hle, fun _ B hB => hB⟩
      · refine ⟨k, ?_, Nat.le_refl _, fun _ B hB => hB⟩
        show shp (m.h.set b (.arr sz r1)) c = _
        rw [shc c hc, ← h.hp.sh]; exact e
  have st : ∀ D : Nat → Nat, D R = 0 → Stp D g w g' w' := fun D hD => { ht.stp hX hD with ge := ge }
  have hge := Sm_get (n := m.h.length) (d := b) (f := hterm R w m.h g.ρ) hbl
  rw [hterm_some hb hR] at hge
  simp only [if_true] at hge
  have h1R := h.one R
  unfold hcnt at h1R
  have stF := st (fun B => fcnt B fr tm + lcnt B w m.lm g.lam + Cx B) (by omega)
  have k2 : Kp (fun B => lcnt B w m.lm g.lam) w w' g.X g'.X := (stF.mono fun B => by omega).kp
  have up : ∀ {v : V} {y : Value}, RepV g w v y → RepV g' w' v y := fun hv => hv.mono stF.fz stF.sh stF.ge fun B _ => rfl
  have other : ∀ (c S : Nat), c ≠ b → c < m.h.length → g.ρ[c]? = some (some S) → S ≠ R := by
    intro c S hcb hcl hS e
    subst e
    obtain ⟨xc, hxc⟩ : ∃ xc, m.h[c]? = some xc := ⟨_, List.getElem?_eq_getElem hcl⟩
    have h2 := Sm_two (f := hterm S w m.h g.ρ) hcl hbl hcb
    rw [hterm_some hb hR, hterm_some hxc hS] at h2
    simp only [if_true] at h2
    omega
  refine ⟨g', fun c => rfl, ⟨⟨rfl, by simp [g', h.hp.len], fun c xc S hxc hS => ?_, fun c hS => ?_, fun B hB => h.hp.new B (by rw [ht.size] at hB; exact hB)⟩,
    h.lm.mono stF.fz stF.sh stF.ge rfl k2, fun t => up (h.frm t), fun B => ?_, fun B hB => h.cnew B (by rw [ht.size] at hB; exact hB), ?_⟩, st⟩
  · by_cases hc : c = b
    · subst hc
      have : S = R := by
        have : g.ρ[c]? = some (some S) := hS
        rw [hR] at this
        simp only [Option.some.injEq] at this
        exact this.symm
      subst this
      have hxc' : (m.h.set c (.arr sz r1))[c]? = some xc := hxc
      rw [List.getElem?_set_self hbl] at hxc'
      simp only [Option.some.injEq] at hxc'
      subst hxc'
      exact ⟨hX, zs, T, cap, hnew, hsz, hcap, hs0, fun i r hi => ⟨hrow i r hi, fun j c hj => up (hr i r j c hi hj)⟩⟩
    · have hxc' : m.h[c]? = some xc := by
        have : (m.h.set b (.arr sz r1))[c]? = some xc := hxc
        rwa [List.getElem?_set_ne (Ne.symm hc)] at this
      obtain ⟨h0, h1⟩ := h.hp.blk c xc S hxc' hS
      exact ⟨h0, h1.mono stF.fz stF.sh stF.ge (ht.rest S (other c S hc (lt_of_get hxc') hS)) fun B _ => rfl⟩
  · have hc : c ≠ b := by
      rintro rfl
      have : g.ρ[c]? = some none := hS
      rw [hR] at this
      cases this
    show (m.h.set b (.arr sz r1))[c]? = _
    rw [List.getElem?_set_ne (Ne.symm hc)]
    exact h.hp.un c hS
  · have h1 := h.one B
    have h2 := hp B
    rw [LmRel.cnt_keep k2 B]
    have h3 := hcnt_set (B := B) (w' := w') (x' := .arr sz r1) hb hR (fun c S hcb hcl hS => ht.rest S (other c S hcb hcl hS))
    have h4 : bcnt B w' R (.arr sz r1) = Sm r1.length fun i => pmL B (r1.getD i []) zs (i * sz) := by
      have : conc w' R = zs := by unfold conc; rw [hnew]
      simp only [bcnt, this]
    show fcnt B fr tm + lcnt B w m.lm g.lam + hcnt B w' (m.h.set b (.arr sz r1)) g.ρ + pm B (.sl b 0 n r1.length) (.slice (some ad) n cap) + Cx B ≤ 1
    have h5 : pm B (.sl b 0 n r1.length) (.slice (some ad) n cap) = 0 := by simp [pm]
    rw [h5]
    omega
  · refine .sl b 0 n r1.length sz r1.length _ cap hn shb (Nat.le_refl _) fun _ => ⟨R, zs, T, hR, ?_, hnew, by rw [Nat.zero_add]; exact hsz.symm⟩
    rw [Nat.zero_mul]; exact had

theorem fits_some {n b : Nat} (h : fits n b = true) : 0 < b ∧ n * b ≤ 140737488355328 ∧ n ≤ 9223372036854775807 := by
  unfold fits at h
  simp only [Bool.and_eq_true, decide_eq_true_eq] at h
  have : n ≤ n * b := Nat.le_mul_of_pos_right _ h.1.1
  refine ⟨h.1.1, by omega, by omega⟩

theorem getD_front {L : List Value} {Z : Array Value} {q : Nat} {u : Value} (h : L[q]? = some u) : (L.toArray ++ Z).getD q undef = u := by
  have hq := lt_of_get h
  simp only [Array.getD_eq_getD_getElem?]
  rw [Array.getElem?_append_left (by simpa using hq)]
  simp [h]

/-- what lies in a list's memory -/
theorem lst_olds {es : List PV} {B cap sz len : Nat} (h : RepP w g.X (.lst es) (.slice (some ⟨B, 0, none⟩) len cap)) (hne : es ≠ []) (hsz : ∀ e ∈ es, e.cells.length = sz) :
    ∃ olds : List Value, olds.length = es.length * sz ∧ (∀ (j : Nat) (u : Value), olds[j]? = some u → w.cell? ⟨B, j, none⟩ = some u) ∧
      ∀ (i : Nat) (e : PV) (j : Nat) (c : PV), es[i]? = some e → e.cells[j]? = some c → ∃ u, olds[i * sz + j]? = some u ∧ RepP w g.X c u := by
  generalize hyv : Value.slice (some ⟨B, 0, none⟩) len cap = yv at h
  cases h with
  | lst _ a cap2 sz2 B2 off2 f ha hz2 hcap hc hr =>
    simp only [Value.slice.injEq] at hyv
    obtain ⟨rfl, -, -⟩ := hyv
    rcases ha with ha | ha
    · exact absurd ha hne
    · simp only [Option.some.injEq, Addr.mk.injEq] at ha
      obtain ⟨rfl, rfl, -⟩ := ha
      have hs2 : sz2 = sz := by
        cases es with
        | nil => exact absurd rfl hne
        | cons e es => have h1 := hz2 0 e (by simp); have h2 := hsz e (by simp); omega
      subst hs2
      have get : ∀ q, q < es.length * sz2 → ∃ u, (flatC w B 0 (es.length * sz2))[q]? = some u ∧ w.cell? ⟨B, q, none⟩ = some u := fun q hq => by
        obtain ⟨h1, h2, h3⟩ := split_ix hq
        have he : es[q / sz2]? = some es[q / sz2] := List.getElem?_eq_getElem h1
        have hce : (es[q / sz2]).cells.length = sz2 := hsz _ (List.getElem_mem h1)
        have hcj : (es[q / sz2]).cells[q % sz2]? = some ((es[q / sz2]).cells[q % sz2]'(by omega)) := List.getElem?_eq_getElem (by omega)
        have := (hc _ _ _ _ he hcj).2
        rw [← h3, Nat.zero_add] at this
        exact ⟨_, flatC_get hq (by rw [Nat.zero_add]; exact this), this⟩
      refine ⟨flatC w B 0 (es.length * sz2), flatC_length _ _ _ _, fun j u hj => ?_, fun i e j c he hj => ?_⟩
      · have hlt := lt_of_get hj
        rw [flatC_length] at hlt
        obtain ⟨u', e1, e2⟩ := get j hlt
        rw [e1] at hj
        simp only [Option.some.injEq] at hj
        subst hj; exact e2
      · have hjl : j < sz2 := by have := lt_of_get hj; rw [hsz e (List.mem_of_getElem? he)] at this; exact this
        have h3 := (hc i e j c he hj).2
        rw [Nat.zero_add] at h3
        exact ⟨f i j, flatC_get (ix_lt (lt_of_get he) hjl) (by rw [Nat.zero_add]; exact h3), hr i e j c he hj⟩

/-- an appended-to list moves to new memory -/
theorem Rel.growOwn (h : Rel Cx g w tm fr m) {es xs : List PV} (hne : es ++ xs ≠ []) {olds news : List Value} {sz gc : Nat} (e : TypeId) {z : Array Value} (hz : z.size = sz) (hol : olds.length = es.length * sz) (hnl : news.length = xs.length * sz)
    (hes : ∀ e ∈ es ++ xs, e.cells.length = sz) (hro : ∀ (i : Nat) (e : PV) (j : Nat) (c : PV), es[i]? = some e → e.cells[j]? = some c → ∃ u, olds[i * sz + j]? = some u ∧ RepP w g.X c u)
    (hrn : ∀ (i : Nat) (e : PV) (j : Nat) (c : PV), xs[i]? = some e → e.cells[j]? = some c → ∃ u, news[i * sz + j]? = some u ∧ RepP w g.X c u) (hgc : es.length + xs.length ≤ gc) :
    ∃ g', (∀ c : Nat, g'.ρ[c]? = g.ρ[c]?) ∧ RelV Cx g' (w.drew.alloc (.cells ((olds ++ news).toArray ++ Builtin.zeroCells z (gc - (es.length + xs.length))) e)) tm fr m (.own (es ++ xs)) (.slice (some ⟨w.heap.size, 0, none⟩) (es.length + xs.length) gc) ∧
      ∀ D : Nat → Nat, (∀ B, w.heap.size ≤ B → D B = 0) → Stp D g w g' (w.drew.alloc (.cells ((olds ++ news).toArray ++ Builtin.zeroCells z (gc - (es.length + xs.length))) e)) := by
  have hlen : (es ++ xs).length = es.length + xs.length := List.length_append
  have hsize : ((olds ++ news).toArray ++ Builtin.zeroCells z (gc - (es.length + xs.length))).size = gc * sz := by
    simp only [Array.size_append, List.size_toArray, List.length_append, size_zeroCells, hz, hol, hnl]
    rw [← Nat.add_mul, ← Nat.add_mul]
    congr 1
    omega
  obtain ⟨r1, r2⟩ := h.drew.newOwn hne e hsize (by rw [hlen]; exact hgc) hes (fun i e j c he hj => by
    have hjl : j < sz := by have := lt_of_get hj; rw [hes e (List.mem_of_getElem? he)] at this; exact this
    rw [List.getElem?_append] at he
    split at he
    · rename_i hi
      obtain ⟨u, hu, hru⟩ := hro i e j c he hj
      rw [getD_front (u := u) (by rw [List.getElem?_append_left (lt_of_get hu)]; exact hu)]
      exact hru.mono (Stp.drew (fun _ => 0) g w).fz
    · rename_i hi
      obtain ⟨u, hu, hru⟩ := hrn (i - es.length) e j c he hj
      have e5 : i * sz + j - es.length * sz = (i - es.length) * sz + j := by
        rw [Nat.sub_mul]
        have : es.length * sz ≤ i * sz := Nat.mul_le_mul_right _ (by omega)
        omega
      have e6 : es.length * sz ≤ i * sz + j := by
        have : es.length * sz ≤ i * sz := Nat.mul_le_mul_right _ (by omega)
        omega
      rw [getD_front (u := u) (by rw [List.getElem?_append_right (by omega), hol, e5]; exact hu)]
      exact hru.mono (Stp.drew (fun _ => 0) g w).fz)
  rw [hlen] at r1
  refine ⟨g.froze w.heap.size ((es.length + xs.length) * sz), fun c => rfl, r1, fun D hD => (Stp.drew D g w).trans ?_⟩
  have := r2 D hD
  rw [hlen] at this
  exact this

end
end Go.Wn

namespace Go.Wn
open Go

theorem own_inv {g : Gh} {w : World} {es : List PV} {y : Value} (h : RepV g w (.own es) y) : (es = [] ∧ ∃ q, y = .slice q 0 0) ∨ (es ≠ [] ∧ ∃ B cap, y = .slice (some ⟨B, 0, none⟩) es.length cap ∧ RepP w g.X (.lst es) y ∧ es.length ≤ cap ∧ ∃ sz, ∀ e ∈ es, e.cells.length = sz) := by
  cases h with
  | own0 q => exact .inl ⟨rfl, q, rfl⟩
  | own es cap sz B hne h hz ho => exact .inr ⟨hne, B, cap, rfl, h, ho.cap, sz, hz⟩

theorem head_all {es : List PV} {sz n : Nat} (h : headOk es sz = true) (hz : ∀ e ∈ es, e.cells.length = n) : ∀ e ∈ es, e.cells.length = sz := by
  cases es with
  | nil => simp
  | cons x xs =>
    simp only [headOk, beq_iff_eq] at h
    have := hz x (by simp)
    intro e he
    rw [hz e he]; omega

theorem elOk_all {xs : List PV} {sz : Nat} (h : xs.all (elOk sz) = true) : ∀ e ∈ xs, e.cells.length = sz := fun e he => by
  rw [List.all_eq_true] at h
  have := h e he
  simp only [elOk, Bool.and_eq_true, beq_iff_eq] at this
  exact this.1

theorem Sm_ext {n n' : Nat} {f f' : Nat → Nat} (hn : n ≤ n') (h : ∀ i, i < n → f' i ≤ f i) (h0 : ∀ i, n ≤ i → i < n' → f' i = 0) : Sm n' f' ≤ Sm n f := by
  induction n' with
  | zero => have : n = 0 := by omega
            subst this; exact Nat.le_refl _
  | succ k ih =>
    by_cases e : n = k + 1
    · subst e; exact Sm_le h
    · have := ih (by omega) fun i h1 h2 => h0 i h1 (by omega)
      simp only [Sm]
      rw [h0 k (by omega) (by omega)]; omega

theorem pmL_get_le {B : Nat} {n : Nat} {f f' : Nat → Nat} (h : ∀ i, i < n → f' i ≤ f i) : Sm n f' ≤ Sm n f := Sm_le h

section
variable {P : Program} {E : Env} {K : Ctx} {o : Oper} {Cx : Nat → Nat} {g : Gh} {w : World} {a : Act} {fr : Fr} {m : Mem}

theorem ok_append (hQ : TabOk P E.Q) (h : Rel Cx g w a.tmps fr m) (hK : K.ro ≤ m.h.length) {nf sq farr : Bool} {pre : List Oper} {S : Nat → Prop} (hi : Ids P E sq S pre fr a.tmps w) {c : Call} (ho : o.op = .call c) (hc : c.callee = .builtin .append) {s x : Operand} (hS : ∀ t, s = .tmp t → S t) {t tx : TypeId}
    (ha : c.args.toList = [s, x]) (ht : c.argTypes.toList = [t, tx]) (htx : srcT E.Q tx = true) {r : V × Heap}
    (hv : appendV E.Q K (takeS E nf sq K.ro pre fr m s).2.1.h farr t (takeS E nf sq K.ro pre fr m s).1 (argOf nf fr x) = some r) :
    OpOk P E K o Cx g w a fr m ⟨r.1, ⟨(takeS E nf sq K.ro pre fr m s).2.1.lm, r.2⟩, (takeS E nf sq K.ro pre fr m s).2.2⟩ := by
  obtain ⟨h1, h2⟩ := takeS_rel (ds := a.defers) (nf := nf) (ro := K.ro) hQ h hi s hS
  have h3 := takeS_old (E := E) (nf := nf) (sq := sq) (ro := K.ro) (pre := pre) (fr := fr) (m := m) s
  generalize takeS E nf sq K.ro pre fr m s = q at *
  obtain ⟨v1, m1, fr1⟩ := q
  simp only at *
  have hx : RepV g w (argOf nf fr x) (a.eval x) := evA h nf x
  generalize argOf nf fr x = xv at hx hv
  have hy1 : RepV g w v1 (a.eval s) := h1.val
  have hc' : c = { callee := .builtin .append, args := c.args, argTypes := c.argTypes } := by cases c; simp_all
  have hw : writesMem E o = true := by simp [writesMem, ho, hc]
  have hst : isStore o = true := by unfold isStore; rw [ho, hc']
  have hDk : ∀ B, Dk E K o Cx g w m B = Cx B + hcnt B w (m1.h.take K.ro) g.ρ := fun B => by simp [Dk, hw, hst, h3]
  have hargs : c.args.map a.eval = #[a.eval s, a.eval x] := by
    have : c.args = #[s, x] := by rw [← Array.toArray_toList (xs := c.args), ha]
    rw [this]; simp
  have hat : c.argTypes = #[t, tx] := by rw [← Array.toArray_toList (xs := c.argTypes), ht]
  have fin : ∀ (y : Value) (g' : Gh) (w' : World), (Builtin.append_ #[t, tx] o.type #[a.eval s, a.eval x]).run P w = .ok y w' → RelV Cx g' w' a.tmps fr1 ⟨m1.lm, r.2⟩ r.1 y → Stp (Dk E K o Cx g w m) g w g' w' → (∀ b, b < K.ro → g'.ρ[b]? = g.ρ[b]?) →
      OpOk P E K o Cx g w a fr m ⟨r.1, ⟨m1.lm, r.2⟩, fr1⟩ := by
    intro y g' w' hrun hrel hstp hold next Qe hn
    unfold Oper.wp
    have : (execOp a.eval o).run P w = .ok (.value y) w' := by
      simp only [execOp, ho, resolve, hc, invoke, builtin, hargs, hat, Sem.run_bind, Sem.run_pure, Result.andThen_ok, hrun]
    rw [this]
    exact hn g' w' y ⟨hrel, hstp, h2, hold⟩
  have hDnew : ∀ B, w.heap.size ≤ B → Dk E K o Cx g w m B = 0 := fun B hB => Dk_new h hB
  unfold appendV at hv
  split at hv
  · rename_i e hu
    simp only [Option.bind_eq_some_iff] at hv
    obtain ⟨sz, hsz, by_, hby, z, hz, hv⟩ := hv
    obtain ⟨i, hie, his⟩ := hQ.sz _ _ hsz
    obtain ⟨i2, hie2, hib⟩ := hQ.bt _ _ hby
    obtain ⟨i3, hie3, hiz⟩ := hQ.zero _ _ hz
    rw [hie] at hie2 hie3
    simp only [Option.some.injEq] at hie2 hie3
    subst hie2; subst hie3
    subst his
    have hu' := hQ.und _ _ hu
    split at hv
    · cases hv
    · rename_i hcz
      have hs0 : 0 < i.size := by omega
      have hzs : z.cells.size = i.size := by omega
      -- an array is made: nothing stood there
      have mkArr : ∀ (rs : List (List V)) (base : Option Addr), a.eval s = .slice base 0 0 → rowsIn m1.h xv = some rs → fits rs.length by_ = true → rs.all (rowOk i.size) = true → rs.isEmpty = false → r = newArr m1.h i.size rs → OpOk P E K o Cx g w a fr m ⟨r.1, ⟨m1.lm, r.2⟩, fr1⟩ := by
        intro rs base hys hrs hf hok hne hr
        obtain ⟨f1, f2, f3⟩ := fits_some hf
        obtain ⟨news, hsrc, hrr, hpm⟩ := src_rows hQ h1.rel htx hx hrs hok
        have hpos : 0 < rs.length := by cases rs <;> simp at hne ⊢
        have hrun := run_append_grow_src (P := P) w t tx o.type e i z hu' hie hiz base 0 0 [] (by cases base <;> simp [Builtin.firstCells, loadCells, loadCellsFrom]) (a.eval x) rs.length news hsrc (by omega) (by omega) (growslice_fits (by omega) (by rw [hib]; simpa using f2))
        rw [← hys] at hrun
        simp only [Nat.zero_add, List.nil_append] at hrun
        have hgc := grownCap_ge w rs.length 0 e
        obtain ⟨r1, r2⟩ := h1.rel.drew.newArr (zs := news.toArray ++ Builtin.zeroCells z.cells (grownCap w rs.length 0 e - rs.length)) e hs0 (cap := grownCap w rs.length 0 e) (by
          simp only [Array.size_append, List.size_toArray, size_zeroCells, hzs, hrr.len, ← Nat.add_mul]
          congr 1; omega) hgc hrr.row (fun i' r' j c' hi' hj => by
          obtain ⟨u, hu1, hu2⟩ := hrr.rep i' r' j c' hi' hj
          rw [getD_front hu1]
          exact hu2.mono (Stp.drew (fun _ => 0) g w).fz (Stp.drew (fun _ => 0) g w).sh (.refl g) fun _ _ => rfl) hpm
        subst hr
        refine fin _ _ _ hrun r1 ((Stp.drew _ g w).trans (r2 _ hDnew)) (old_more (m := m) h hK)
      -- a list of the call's own is made or grows
      have mkOwn : ∀ (es xs : List PV) (base : Option Addr) (cap : Nat) (olds : List Value), a.eval s = .slice base es.length cap → (∀ e ∈ es, e.cells.length = i.size) → olds.length = es.length * i.size → (Builtin.firstCells i.size es.length (.slice base es.length cap)).run P w.drew = .ok olds.toArray w.drew →
          (∀ (k : Nat) (e : PV) (j : Nat) (c : PV), es[k]? = some e → e.cells[j]? = some c → ∃ u, olds[k * i.size + j]? = some u ∧ RepP w g.X c u) → pureList m1.h xv = some xs → fits (es.length + xs.length) by_ = true → xs.all (elOk i.size) = true → es ++ xs ≠ [] → cap < es.length + xs.length →
          r = (.own (es ++ xs), m1.h) → OpOk P E K o Cx g w a fr m ⟨r.1, ⟨m1.lm, r.2⟩, fr1⟩ := by
        intro es xs base cap olds hys hes hol hfirst hro hxs hf hok hne hcap hr
        obtain ⟨f1, f2, f3⟩ := fits_some hf
        obtain ⟨news, hsrc, hrn⟩ := src_pure hQ h1.rel htx hx hxs hok
        have hrun := run_append_grow_src (P := P) w t tx o.type e i z hu' hie hiz base es.length cap olds hfirst (a.eval x) xs.length news hsrc hcap (by omega) (growslice_fits hcap (by rw [hib]; exact f2))
        rw [← hys] at hrun
        obtain ⟨g', e1, r1, r2⟩ := h1.rel.growOwn hne e hzs hol hsrc.newsLen (fun e he => by
          rcases List.mem_append.1 he with h | h
          · exact hes e h
          · exact elOk_all hok e h) hro hrn (grownCap_ge w (es.length + xs.length) cap e)
        subst hr
        exact fin _ _ _ hrun r1 (r2 _ hDnew) fun b _ => e1 b
      split at hv
      · -- s is a list of the call's own
        rename_i es
        rcases own_inv hy1 with ⟨rfl, base, hys⟩ | ⟨hne, B, cap, hys, hrp, hcap, n0, hn0⟩
        · split at hv
          · rename_i xs hxs
            have hxs' : pureList m1.h xv = some xs := by cases farr <;> simp at hxs; exact hxs
            split at hv
            · rename_i hcnd
              simp only [Bool.and_eq_true] at hcnd
              simp only [Option.some.injEq] at hv
              by_cases hx0 : xs = []
              · subst hx0
                obtain ⟨news, hsrc, hrn⟩ := src_pure hQ h1.rel htx hx hxs' hcnd.2
                have hn0 : news = [] := List.length_eq_zero_iff.1 (by rw [hsrc.newsLen]; simp)
                subst hn0
                have hrun := run_append_none (P := P) (ty := o.type) hu' hie (base := base) hsrc
                rw [← hys] at hrun
                subst hv
                refine fin _ g w hrun ?_ (.refl _ g w) fun _ _ => rfl
                refine h1.rel.withV0 ?_ fun B => pm_own_nil B _
                rw [hys]; exact .own0 _
              · refine mkOwn [] xs base 0 [] hys (by simp) (by simp) (by cases base <;> simp [Builtin.firstCells, loadCells, loadCellsFrom]) (by simp) hxs' hcnd.1.1 hcnd.2 (by simpa using hx0) ?_ hv.symm
                have : 0 < xs.length := by cases xs <;> simp at hx0 ⊢
                simpa using this
            · cases hv
          · split at hv
            · simp only [Option.bind_eq_some_iff] at hv
              obtain ⟨rs, hrs, hv⟩ := hv
              split at hv
              · rename_i hcnd
                simp only [Bool.and_eq_true, Bool.not_eq_true'] at hcnd
                simp only [Option.some.injEq] at hv
                exact mkArr rs base hys hrs hcnd.1.1 hcnd.1.2 hcnd.2 hv.symm
              · cases hv
            · cases hv
        · split at hv
          · rename_i xs hxs
            have hxs' : pureList m1.h xv = some xs := by cases farr <;> simp at hxs; exact hxs
            split at hv
            · rename_i hcnd
              simp only [Bool.and_eq_true] at hcnd
              simp only [Option.some.injEq] at hv
              have hes := head_all hcnd.1.2 hn0
              by_cases hroom : es.length + xs.length ≤ cap
              · obtain ⟨news, hsrc, hrn⟩ := src_pure hQ h1.rel htx hx hxs' hcnd.2
                have h1' := h1
                rw [show (Act.eval { tmps := a.tmps, defers := a.defers } s) = .slice (some ⟨B, 0, none⟩) es.length cap from hys] at h1'
                obtain ⟨ys, T, hb, _, hfit, r1, r2⟩ := h1'.ownGrow hne hes (elOk_all hcnd.2) hsrc.newsLen hrn hroom
                have hrun := run_append_row (P := P) (ty := o.type) hu' hie hsrc hroom hb (off := 0) (by rw [Nat.zero_add]; exact hfit)
                rw [← hys] at hrun
                simp only [Nat.zero_add] at hrun
                subst hv
                refine fin _ _ _ hrun r1 (r2 _ ?_) fun _ _ => rfl
                rw [hDk]
                have h4 := h1'.one B
                have h5 : pm B (.own es) (.slice (some ⟨B, 0, none⟩) es.length cap) = 1 := by simp [pm, hne]
                rw [h5] at h4
                have h6 := hcnt_take_le (B := B) (k := K.ro) (w := w) (h := m1.h) (ρ := g.ρ)
                omega
              · obtain ⟨olds, o1, o2, o3⟩ := lst_olds (hys ▸ hrp) hne hes
                refine mkOwn es xs (some ⟨B, 0, none⟩) cap olds hys hes o1 ?_ o3 hxs' hcnd.1.1 hcnd.2 (by simp [hne]) (by omega) hv.symm
                exact run_firstCells_some w.drew i.size es.length ⟨B, 0, none⟩ es.length cap olds o1 (fun j u hj => by rw [Addr.add_mid, Nat.zero_add]; exact o2 j u hj)
            · cases hv
          · split at hv
            · rename_i he
              exact absurd (List.isEmpty_iff.1 he) hne
            · cases hv
      · -- s is nil
        have hys := hy1.nils_inv
        split at hv
        · rename_i xs hxs
          have hxs' : pureList m1.h xv = some xs := by cases farr <;> simp at hxs; exact hxs
          split at hv
          · rename_i hcnd
            simp only [Bool.and_eq_true] at hcnd
            split at hv
            · rename_i hx0
              simp only [Option.some.injEq] at hv
              have hx0' : xs = [] := List.isEmpty_iff.1 hx0
              subst hx0'
              obtain ⟨news, hsrc, hrn⟩ := src_pure hQ h1.rel htx hx hxs' hcnd.2
              have hn0 : news = [] := List.length_eq_zero_iff.1 (by rw [hsrc.newsLen]; simp)
              subst hn0
              have hrun := run_append_none (P := P) (ty := o.type) hu' hie (base := none) hsrc
              rw [← hys] at hrun
              subst hv
              refine fin _ g w hrun ?_ (.refl _ g w) fun _ _ => rfl
              refine h1.rel.withV0 ?_ fun B => pm_p B _ _
              rw [hys]; exact .p _ _ .nils
            · rename_i hx0
              simp only [Option.some.injEq] at hv
              have hx0' : xs ≠ [] := fun e => hx0 (by rw [e]; rfl)
              refine mkOwn [] xs none 0 [] hys (by simp) (by simp) (by simp [Builtin.firstCells]) (by simp) hxs' (by simpa using hcnd.1) hcnd.2 (by simpa using hx0') ?_ (by simpa using hv.symm)
              have : 0 < xs.length := by cases xs <;> simp at hx0' ⊢
              simpa using this
          · cases hv
        · simp only [Option.bind_eq_some_iff] at hv
          obtain ⟨rs, hrs, hv⟩ := hv
          split at hv
          · rename_i hcnd
            simp only [Bool.and_eq_true, Bool.not_eq_true'] at hcnd
            simp only [Option.some.injEq] at hv
            exact mkArr rs none hys hrs hcnd.1.1 hcnd.1.2 hcnd.2 hv.symm
          · cases hv
      · -- s lies in an array of the heap
        rename_i b off len ver
        simp only [Option.bind_eq_some_iff] at hv
        obtain ⟨rs, hrs, hv⟩ := hv
        split at hv
        · rename_i s0 r0 hb
          split at hv
          · rename_i hcnd
            simp only [Bool.and_eq_true, decide_eq_true_eq, mayPut] at hcnd
            obtain ⟨⟨⟨⟨⟨⟨c1, c2⟩, c3⟩, c4⟩, c5⟩, c6⟩, ⟨⟨c7, c8⟩, c9⟩⟩ := hcnd
            subst c3
            obtain ⟨f1, f2, f3⟩ := fits_some c5
            simp only [Option.some.injEq] at hv
            obtain ⟨news, hsrc, hrr, hpm⟩ := src_rows hQ h1.rel htx hx hrs c6
            have hy2 := hy1
            generalize hys : a.eval s = ysv at hy2
            cases hy2 with
            | sl b off len ver sz' n' ad cap hl hs hv' hB =>
              have hsh : g.sh b = some (s0, r0.length) := by rw [h1.hp.sh]; simp [shp, hb]
              rw [hs] at hsh
              simp only [Option.some.injEq, Prod.mk.injEq] at hsh
              obtain ⟨e1, e2⟩ := hsh
              subst e1
              obtain ⟨B, ys, T, hρ, had, hblk, hsize⟩ := hB (by omega)
              rw [Nat.zero_add] at hsize
              rw [Nat.zero_mul] at had
              obtain ⟨hX, ys2, T2, cap2, hblk2, hs2, hcap2, hz2, hc2⟩ := h1.hp.blk b _ B hb hρ
              rw [hblk] at hblk2
              simp only [Option.some.injEq, Obj.cells.injEq] at hblk2
              obtain ⟨rfl, rfl, _⟩ := hblk2
              have hcc : cap2 = cap := Nat.eq_of_mul_eq_mul_right hs0 (by rw [← c2, ← hs2, ← hsize])
              subst hcc
              have hconc : conc w B = ys := by unfold conc; rw [hblk]
              have hro : K.ro ≤ b := c7
              have hD0 : Dk E K o Cx g w m B = 0 := by
                rw [hDk]
                have h4 := h1.one B
                have h5 := Sm_split (n := m1.h.length) (k := min K.ro m1.h.length) (b := b) (f := hterm B w m1.h g.ρ) (by omega) (lt_of_get hb)
                rw [hterm_some hb hρ] at h5
                simp only [if_true] at h5
                rw [hcnt_take]
                unfold hcnt at h4
                omega
              have hlenr : r0.length = ver := c1
              -- the rows behind
              have hsub : ∀ k, sz' * k = k * sz' := fun k => Nat.mul_comm _ _
              by_cases hroom : len + rs.length ≤ cap2
              · by_cases hcap0 : cap2 = 0
                · subst c2
                  have l0 : len = 0 := by omega
                  have n0 : rs = [] := List.length_eq_zero_iff.1 (by omega)
                  have r00 : r0 = [] := List.length_eq_zero_iff.1 (by omega)
                  subst l0; subst n0; subst r00
                  have hn0 : news = [] := List.length_eq_zero_iff.1 (by rw [hrr.len]; simp)
                  subst hn0
                  subst hcap0
                  have hrun := run_append_none (P := P) (ty := o.type) hu' hie (base := some ad) hsrc
                  rw [← hys] at hrun
                  obtain ⟨g', d1, d2, d3⟩ := h1.rel.turnArr hb hρ (r1 := []) (n := 0) (Turn.refl B w) hblk (Nat.le_refl _) (Nat.le_refl _) (by omega) (by rw [hs2]) (Nat.le_refl _) (ad := ad) (.inl rfl) (by simp) (by simp) (fun B' => by simp [Sm])
                  subst hv
                  refine fin _ g' w hrun ?_ (d3 _ hD0) fun b' _ => d1 b'
                  rw [hys]
                  simpa using d2
                · have had' : ad = ⟨B, 0, none⟩ := by
                    rcases had with h0 | h0
                    · exact absurd h0 hcap0
                    · exact h0
                  subst had'
                  subst c2
                  have hfit : len * i.size + news.length ≤ ys.size := by
                    rw [hrr.len, hs2, ← Nat.add_mul]; exact Nat.mul_le_mul_right _ hroom
                  have hrun := run_append_row (P := P) (ty := o.type) hu' hie hsrc hroom hblk (off := 0) (by rw [Nat.zero_add]; exact hfit)
                  rw [← hys] at hrun
                  simp only [Nat.zero_add] at hrun
                  generalize hzs : (ys.toList.take (len * i.size) ++ news ++ ys.toList.drop (len * i.size + news.length)).toArray = zs at hrun
                  have hzsz : zs.size = ys.size := by rw [← hzs]; exact size_splice hfit
                  have hget : ∀ k, zs.getD k undef = if len * i.size ≤ k ∧ k < len * i.size + news.length then news.getD (k - len * i.size) undef else ys.getD k undef := fun k => by rw [← hzs]; exact getD_splice hfit
                  have rget : ∀ (k : Nat) (r : List V), (r0.take len ++ rs ++ r0.drop (len + rs.length))[k]? = some r → (len ≤ k ∧ k < len + rs.length ∧ rs[k - len]? = some r) ∨ ((k < len ∨ len + rs.length ≤ k) ∧ r0[k]? = some r) := by
                    intro k r hk
                    have hl1 : (r0.take len).length = len := by simp; omega
                    rw [List.append_assoc, List.getElem?_append, hl1] at hk
                    split at hk
                    · rename_i hlt
                      rw [List.getElem?_take, if_pos hlt] at hk
                      exact .inr ⟨.inl hlt, hk⟩
                    · rw [List.getElem?_append] at hk
                      split at hk
                      · exact .inl ⟨by omega, by omega, hk⟩
                      · rw [List.getElem?_drop, show len + rs.length + (k - len - rs.length) = k from by omega] at hk
                        exact .inr ⟨.inr (by omega), hk⟩
                  have hl1 : (r0.take len ++ rs ++ r0.drop (len + rs.length)).length = max r0.length (len + rs.length) := by
                    simp; omega
                  have mulle : ∀ {p q : Nat}, p ≤ q → p * i.size ≤ q * i.size := fun h => Nat.mul_le_mul_right _ h
                  have keepcell : ∀ (k j : Nat), j < i.size → (k < len ∨ len + rs.length ≤ k) → zs.getD (k * i.size + j) undef = ys.getD (k * i.size + j) undef := by
                    intro k j hj hk
                    rw [hget, if_neg]
                    rw [hrr.len]
                    rintro ⟨g1, g2⟩
                    rcases hk with hk | hk
                    · have := ix_lt hk hj; omega
                    · have := mulle hk
                      rw [Nat.add_mul] at this
                      omega
                  obtain ⟨g', d1, d2, d3⟩ := h1.rel.turnArr hb hρ (r1 := r0.take len ++ rs ++ r0.drop (len + rs.length)) (n := len + rs.length) (Turn.setRow (ys' := zs) hblk hzsz) (setRow_heap w B ys zs T (0, 0) hblk)
                    (by rw [hl1]; omega) hroom hs0 (by rw [hzsz, hs2]) (by rw [hl1]; omega) (.inr rfl)
                    (fun k r hk => by
                      rcases rget k r hk with ⟨_, _, hk⟩ | ⟨_, hk⟩
                      · exact hrr.row _ _ hk
                      · exact (hc2 k r hk).1)
                    (fun k r j c hk hj => by
                      rcases rget k r hk with ⟨k1, k2, hk⟩ | ⟨hk1, hk⟩
                      · obtain ⟨u, hu1, hu2⟩ := hrr.rep _ _ j c hk hj
                        have hul := lt_of_get hu1
                        have e5 : k * i.size + j - len * i.size = (k - len) * i.size + j := by
                          rw [Nat.sub_mul]; have := mulle k1; omega
                        have e6 := mulle k1
                        rw [hget, if_pos ⟨by omega, by omega⟩, e5]
                        have : news.getD ((k - len) * i.size + j) undef = u := by simp [List.getD, hu1]
                        rw [this]; exact hu2
                      · have hjl : j < i.size := by have := lt_of_get hj; rw [(hc2 k r hk).1] at this; exact this
                        rw [keepcell k j hjl hk1]
                        exact (hc2 k r hk).2 j c hj)
                    (fun B' => by
                      simp only [bcnt, hconc, hl1]
                      refine Nat.le_trans ?_ (Sm_ext (n := r0.length) (n' := max r0.length (len + rs.length)) (f' := fun k => if k < len ∨ len + rs.length ≤ k then pmL B' (r0.getD k []) ys (k * i.size) else 0) (by omega) (fun k hk => ?_) (fun k h1 h2 => ?_))
                      · refine Sm_le fun k hk => ?_
                        obtain ⟨r, hr⟩ : ∃ r, (r0.take len ++ rs ++ r0.drop (len + rs.length))[k]? = some r := ⟨_, List.getElem?_eq_getElem (by rw [hl1]; exact hk)⟩
                        have hrd : (r0.take len ++ rs ++ r0.drop (len + rs.length)).getD k [] = r := by simp only [List.getD, hr, Option.getD_some]
                        rw [hrd]
                        rcases rget k r hr with ⟨k1, k2, hk'⟩ | ⟨hk1, hk'⟩
                        · rw [hpm r (List.mem_of_getElem? hk')]; omega
                        · rw [if_pos hk1]
                          have : r0.getD k [] = r := by simp [List.getD, hk']
                          rw [this]
                          refine Nat.le_of_eq (pmL_congr fun j hj => ?_)
                          exact keepcell k j (by rw [(hc2 k r hk').1] at hj; exact hj) hk1
                      · split <;> omega
                      · rw [if_neg (by omega)])
                  subst hv
                  refine fin _ g' _ hrun d2 (d3 _ hD0) fun b' _ => d1 b'
              · -- the array moves
                subst c2
                have hr1 : r0.take len ++ rs ++ r0.drop (len + rs.length) = r0.take len ++ rs := by
                  rw [List.drop_eq_nil_of_le (by omega), List.append_nil]
                have hl0 : (r0.take len).length = len := by simp; omega
                have hl1 : (r0.take len ++ rs).length = len + rs.length := by rw [List.length_append, hl0]
                have hlys : len * i.size ≤ ys.size := by rw [hs2]; exact Nat.mul_le_mul_right _ (by omega)
                have hol : (ys.toList.take (len * i.size)).length = len * i.size := by simp; omega
                have hfirst : (Builtin.firstCells i.size len (.slice (some ad) len cap2)).run P w.drew = .ok (ys.toList.take (len * i.size)).toArray w.drew := by
                  by_cases hl00 : len = 0
                  · subst hl00
                    simp [Builtin.firstCells, loadCells, loadCellsFrom]
                  · have had' : ad = ⟨B, 0, none⟩ := by
                      rcases had with h0 | h0
                      · omega
                      · exact h0
                    subst had'
                    refine run_firstCells_some w.drew i.size len ⟨B, 0, none⟩ len cap2 _ hol fun j u hj => ?_
                    rw [Addr.add_mid, Nat.zero_add]
                    rw [List.getElem?_take] at hj
                    split at hj
                    · have hb' : w.drew.heap[B]? = some (.cells ys T (0, 0)) := hblk
                      simp only [World.cell?, hb', Option.isSome_none, Bool.false_eq_true, if_false]
                      simpa using hj
                    · cases hj
                have hrun := run_append_grow_src (P := P) w t tx o.type e i z hu' hie hiz (some ad) len cap2 (ys.toList.take (len * i.size)) hfirst (a.eval x) rs.length news hsrc (by omega) (by omega) (growslice_fits (by omega) (by
                  rw [hib]
                  exact Nat.le_trans (Nat.mul_le_mul_right _ (by omega)) f2))
                rw [← hys] at hrun
                have hgc := grownCap_ge w (len + rs.length) cap2 e
                generalize hzd : (ys.toList.take (len * i.size) ++ news).toArray ++ Builtin.zeroCells z.cells (grownCap w (len + rs.length) cap2 e - (len + rs.length)) = zs at hrun
                have hzsz : zs.size = grownCap w (len + rs.length) cap2 e * i.size := by
                  rw [← hzd]
                  simp only [Array.size_append, List.size_toArray, size_zeroCells, hzs, List.length_append, hrr.len, hol, ← Nat.add_mul]
                  congr 1; omega
                have mulle : ∀ {p q : Nat}, p ≤ q → p * i.size ≤ q * i.size := fun h => Nat.mul_le_mul_right _ h
                have gold : ∀ k, k < len * i.size → zs.getD k undef = ys.getD k undef := fun k hk => by
                  have h1 : (ys.toList.take (len * i.size) ++ news)[k]? = some (ys.getD k undef) := by
                    rw [List.getElem?_append_left (by omega), List.getElem?_take, if_pos hk]
                    have : k < ys.size := by omega
                    simp [Array.getD_eq_getD_getElem?, this]
                  rw [← hzd, getD_front h1]
                have gnew : ∀ k u, news[k]? = some u → zs.getD (len * i.size + k) undef = u := fun k u hk => by
                  have h1 : (ys.toList.take (len * i.size) ++ news)[len * i.size + k]? = some u := by
                    rw [List.getElem?_append_right (by omega), hol, show len * i.size + k - len * i.size = k from by omega]; exact hk
                  rw [← hzd, getD_front h1]
                have rget : ∀ (k : Nat) (r : List V), (r0.take len ++ rs)[k]? = some r → (len ≤ k ∧ rs[k - len]? = some r) ∨ (k < len ∧ r0[k]? = some r) := by
                  intro k r hk
                  rw [List.getElem?_append, hl0] at hk
                  split at hk
                  · rename_i hlt
                    rw [List.getElem?_take, if_pos hlt] at hk
                    exact .inr ⟨hlt, hk⟩
                  · exact .inl ⟨by omega, hk⟩
                obtain ⟨g', d1, d2, d3⟩ := h1.rel.drew.growArr (zs := zs) (cap := grownCap w (len + rs.length) cap2 e) hb hρ (r1 := r0.take len ++ rs) (n := len + rs.length) e hl1 (by omega) hs0 hzsz hgc
                  (fun k r hk => by
                    rcases rget k r hk with ⟨_, hk⟩ | ⟨_, hk⟩
                    · exact hrr.row _ _ hk
                    · exact (hc2 k r hk).1)
                  (fun k r j c hk hj => by
                    refine RepV.mono (w := w) (Stp.drew (fun _ => 0) g w).fz (Stp.drew (fun _ => 0) g w).sh (.refl g) ?_ fun _ _ => rfl
                    rcases rget k r hk with ⟨k1, hk⟩ | ⟨hk1, hk⟩
                    · obtain ⟨u, hu1, hu2⟩ := hrr.rep _ _ j c hk hj
                      have e5 : k * i.size + j = len * i.size + ((k - len) * i.size + j) := by
                        rw [Nat.sub_mul]; have := mulle k1; omega
                      rw [e5, gnew _ u hu1]; exact hu2
                    · have hjl : j < i.size := by have := lt_of_get hj; rw [(hc2 k r hk).1] at this; exact this
                      rw [gold _ (ix_lt hk1 hjl)]
                      exact (hc2 k r hk).2 j c hj)
                  (fun B' => by
                    have hconc' : conc w.drew B = ys := hconc
                    simp only [bcnt, hconc']
                    refine Nat.le_trans ?_ (Sm_ext (n := r0.length) (n' := len + rs.length) (f' := fun k => if k < len then pmL B' (r0.getD k []) ys (k * i.size) else 0) (by omega) (fun k hk => ?_) (fun k h1 h2 => ?_))
                    · refine Sm_le fun k hk => ?_
                      obtain ⟨r, hr⟩ : ∃ r, (r0.take len ++ rs)[k]? = some r := ⟨_, List.getElem?_eq_getElem (by rw [hl1]; exact hk)⟩
                      have hrd : (r0.take len ++ rs).getD k [] = r := by simp only [List.getD, hr, Option.getD_some]
                      rw [hrd]
                      rcases rget k r hr with ⟨k1, hk'⟩ | ⟨hk1, hk'⟩
                      · rw [hpm r (List.mem_of_getElem? hk')]; omega
                      · rw [if_pos hk1]
                        have : r0.getD k [] = r := by simp [List.getD, hk']
                        rw [this]
                        refine Nat.le_of_eq (pmL_congr fun j hj => ?_)
                        exact gold _ (ix_lt hk1 (by rw [(hc2 k r hk').1] at hj; exact hj))
                    · split <;> omega
                    · rw [if_neg (by omega)])
                rw [hr1] at hv
                subst hv
                exact fin _ g' _ hrun d2 ((Stp.drew _ g w).trans (d3 _ hDnew)) fun b' hb' => d1 b' (by omega)
          · cases hv
        · cases hv
      · cases hv
  · cases hv

end
end Go.Wn

namespace Go.Wn
open Go

theorem fill_range {sz : Nat} : ∀ (qs : List Value) (k : Nat) (ys : Array Value), (∀ y, y ∈ qs → y.cells.size = sz) → (k + qs.length) * sz ≤ ys.size →
    ∃ zs, Instr.fill (fun i => some (i * sz, sz)) ys ((List.range' k qs.length).zip qs) = some zs ∧ zs.size = ys.size ∧ (∀ (i j : Nat) (y : Value), qs[i]? = some y → j < sz → zs.getD ((k + i) * sz + j) undef = y.cells.getD j undef) ∧ ∀ q, q < k * sz → zs.getD q undef = ys.getD q undef
  | [], k, ys, _, _ => ⟨ys, by simp [Instr.fill], rfl, by simp, fun _ _ => rfl⟩
  | y :: qs, k, ys, hz, hle => by
    have hy := hz y (by simp)
    obtain ⟨f1, f2⟩ := foldl_set (k * sz) y.cells.toList 0 ys
    have e3 : y.cells.zipIdx.foldl (fun cs (c, j) => cs.setIfInBounds (k * sz + j) c) ys = (y.cells.toList.zipIdx 0).foldl (fun cs (c, j) => cs.setIfInBounds (k * sz + j) c) ys := by
      rw [← Array.foldl_toList, Array.toList_zipIdx]
    have hfit : k * sz + sz ≤ ys.size := by
      have : (k + 1) * sz ≤ (k + (y :: qs).length) * sz := Nat.mul_le_mul_right _ (by simp)
      rw [Nat.add_mul] at this; omega
    have f2' : ∀ i, ((y.cells.toList.zipIdx 0).foldl (fun cs (c, j) => cs.setIfInBounds (k * sz + j) c) ys).getD i undef = if k * sz ≤ i ∧ i < k * sz + sz then y.cells.getD (i - k * sz) undef else ys.getD i undef := fun i => by
      have := f2 i (by simp; omega)
      simp only [Nat.add_zero, Array.length_toList, hy] at this
      rw [this]
      split
      · simp [List.getD, Array.getD_eq_getD_getElem?]
      · rfl
    generalize hys : (y.cells.toList.zipIdx 0).foldl (fun cs (c, j) => cs.setIfInBounds (k * sz + j) c) ys = ys' at f1 f2' e3
    obtain ⟨zs, z1, z2, z3, z4⟩ := fill_range qs (k + 1) ys' (fun y hy => hz y (by simp [hy])) (by rw [f1]; simp at hle; rw [show k + 1 + qs.length = k + (qs.length + 1) from by omega]; exact hle)
    refine ⟨zs, ?_, by rw [z2, f1], fun i j u hu hj => ?_, fun q hq => ?_⟩
    · simp only [List.length_cons, List.range'_succ, List.zip_cons_cons, Instr.fill]
      have : (y.cells.size ≠ sz || k * sz + y.cells.size > ys.size) = false := by simp; omega
      simp only [this, Bool.false_eq_true, if_false, e3]
      exact z1
    · cases i with
      | zero =>
        simp at hu; subst hu
        have hq : (k + 0) * sz + j < (k + 1) * sz := by rw [Nat.add_zero]; exact ix_lt (Nat.lt_succ_self k) hj
        rw [z4 _ hq, f2', if_pos ⟨by simp, by simp; omega⟩]
        simp
      | succ i =>
        have := z3 i j u (by simpa using hu) hj
        rwa [show k + 1 + i = k + (i + 1) from by omega] at this
    · rw [z4 q (by rw [Nat.add_mul]; omega), f2', if_neg (by omega)]

theorem pureEl_rel {g : Gh} {w : World} {v : V} {y : Value} {e : PV} (h : RepV g w v y) (hp : pureEl v = some e) : RepP w g.X e y := by
  have cell : ∀ {v : V} {y : Value} {e : PV}, RepV g w v y → cellEl v = some e → RepP w g.X e y := by
    intro v y e h hp
    unfold cellEl at hp
    split at hp
    · simp only [Option.some.injEq] at hp; subst hp; exact h.p_inv
    · simp only [Option.some.injEq] at hp; subst hp; exact h.cp.p_inv
    · cases hp
  unfold pureEl at hp
  split at hp
  · rename_i cs
    simp only [Option.map_eq_some_iff] at hp
    obtain ⟨es, he, rfl⟩ := hp
    cases h with
    | agg _ ys hl hc =>
      obtain ⟨ml, mg⟩ := mapO_some he
      refine .agg es ys (by omega) fun j c hj => ?_
      have hjl := lt_of_get hj
      have hcj : cs[j]? = some (cs[j]'(by omega)) := List.getElem?_eq_getElem (by omega)
      obtain ⟨e', h1, h2⟩ := mg j _ hcj
      rw [hj] at h1
      simp only [Option.some.injEq] at h1
      subst h1
      exact cell (hc j _ hcj) h2
  · exact cell h hp

theorem V.cells_p (e : PV) : (V.p e).cells = e.cells.map V.p := by cases e <;> rfl

theorem V.cellOk_p {c : PV} (h : c.cellOk = true) : (V.p c).cellOk = true := by cases c <;> first | rfl | cases h

theorem RepP.cells_rel {w : World} {X : Nat → Nat} {e : PV} {y : Value} (h : RepP w X e y) (hok : e.cells.all PV.cellOk = true) :
    y.cells.size = e.cells.length ∧ ∀ (j : Nat) (c : PV), e.cells[j]? = some c → RepP w X c (y.cells.getD j undef) := by
  have h' : RepV ⟨[], [], fun _ => none, X, fun _ => ⟨[], rfl⟩⟩ w (.p e) y := .p _ _ h
  obtain ⟨c1, c2, _⟩ := h'.cells (by
    rw [V.cells_p, List.all_map, List.all_eq_true]
    rw [List.all_eq_true] at hok
    exact fun c hc => V.cellOk_p (hok c hc))
  rw [V.cells_p] at c1 c2
  refine ⟨by simpa using c1, fun j c hj => (c2 j (.p c) (by rw [List.getElem?_map, hj]; rfl)).p_inv⟩

theorem pmL_constCells (nf : Bool) (B : Nat) : ∀ (l : List Value) (ys : Array Value) (k : Nat), pmL B (l.map (constCell nf)) ys k = 0
  | [], _, _ => rfl
  | a :: l, ys, k => by simp only [List.map_cons, pmL]; rw [hasOwn_constCell, pmL_constCells nf B l]

theorem hasOwnL_map_p : ∀ l : List PV, hasOwnL (l.map V.p) = false
  | [] => rfl
  | x :: xs => by simp [hasOwnL, hasOwn, hasOwnL_map_p xs]

theorem hasOwnL_cells {v : V} (h : hasOwn v = false) : hasOwnL v.cells = false := by
  cases v with
  | p e => rw [V.cells_p]; exact hasOwnL_map_p _
  | agg cs => simpa [V.cells, hasOwn] using h
  | own es => simp [hasOwn] at h
  | tup cs => simp only [V.cells, hasOwnL, h, Bool.or_self]
  | _ => rfl

theorem mkAgg_cells (cs : List V) : (mkAgg cs).cells = cs := by
  unfold mkAgg
  split
  · rename_i ps hp
    rw [V.cells_p, allP hp]; rfl
  · rfl

/-- an operand's cells own nothing -/
theorem pmL_argCells (nf : Bool) (fr : Fr) (x : Operand) (B : Nat) (ys : Array Value) (k : Nat) : pmL B (argOf nf fr x).cells ys k = 0 := by
  cases x with
  | tmp t => exact pmL_noown B _ ys k (hasOwnL_cells (hasOwn_cp _))
  | const v =>
    simp only [argOf]
    unfold constV
    split
    · rw [mkAgg_cells]; exact pmL_constCells nf B _ ys k
    · split
      · simp [V.cells, pmL, pm]
      · simp [V.cells, pmL, pm]
    · rename_i v2 h1 h2
      have : (constCell nf v).cells = [constCell nf v] := by
        unfold constCell
        split <;> first | rfl | (split <;> rfl)
      rw [this]
      simp only [pmL]
      rw [hasOwn_constCell]
  | global g => simp [argOf, V.cells, pmL, pm]
  | func f => simp [argOf, V.cells, pmL, pm]

section
variable {P : Program} {E : Env} {K : Ctx} {o : Oper} {Cx : Nat → Nat} {g : Gh} {w : World} {a : Act} {fr : Fr} {m : Mem}

/-- a block that nobody asks for -/
theorem Rel.idle {tm : Array Value} (h : Rel Cx g w tm fr m) (ob : Obj) : Rel Cx g (w.alloc ob) tm fr m ∧ ∀ D : Nat → Nat, (∀ B, w.heap.size ≤ B → D B = 0) → Stp D g w g (w.alloc ob) := by
  have st : ∀ D : Nat → Nat, (∀ B, w.heap.size ≤ B → D B = 0) → Stp D g w g (w.alloc ob) := fun D hD => Stp.alloc _ (fun B _ => rfl) (.refl g) hD
  exact ⟨h.step (st _ fun B hB => by have := (RelV.of_rel h).cnt_lt hB; omega) rfl rfl rfl (fun B hB => h.hp.new B (by simp at hB; omega)) (fun B hB => h.cnew B (by simp at hB; omega)), st⟩

theorem ok_buildSlice (hQ : TabOk P E.Q) (h : Rel Cx g w a.tmps fr m) (hK : K.ro ≤ m.h.length) (nf : Bool) {t : TypeId} {n : Nat} {parts : Array (Nat × Operand)} (ho : o.op = .buildSlice t n parts) {r : V × Heap}
    (hv : listOf E.Q m.h t n (parts.toList.map fun x => (x.1, argOf nf fr x.2)) = some r) : OpOk P E K o Cx g w a fr m ⟨r.1, ⟨m.lm, r.2⟩, fr⟩ := by
  have hDnew : ∀ B, w.heap.size ≤ B → Dk E K o Cx g w m B = 0 := fun B hB => Dk_new h hB
  unfold listOf at hv
  split at hv
  · rename_i e hu
    simp only [Option.bind_eq_some_iff] at hv
    obtain ⟨sz, hsz, z, hz, hv⟩ := hv
    obtain ⟨i, hie, his⟩ := hQ.sz _ _ hsz
    obtain ⟨i3, hie3, hiz⟩ := hQ.zero _ _ hz
    rw [hie] at hie3
    simp only [Option.some.injEq] at hie3
    subst hie3; subst his
    split at hv
    · rename_i hcnd
      obtain ⟨c1, c2, c3⟩ := hcnd
      have hix : parts.toList.map (·.1) = List.range n := by rw [List.map_map] at c1; exact c1
      have hpl : parts.toList.length = n := by have := congrArg List.length hix; simpa using this
      have hps : (parts.map fun (i, x) => (i, a.eval x)).toList = (List.range' 0 n).zip ((parts.toList.map (·.2)).map a.eval) := by
        rw [parts_arr, hix, List.range_eq_range']
      have hvals : (parts.toList.map fun x => (x.1, argOf nf fr x.2)).map (·.2) = (parts.toList.map (·.2)).map (argOf nf fr) := by simp
      have hrepv : ∀ (k : Nat) (v : V), ((parts.toList.map (·.2)).map (argOf nf fr))[k]? = some v → ∃ y, ((parts.toList.map (·.2)).map a.eval)[k]? = some y ∧ RepV g w v y ∧ ∃ x, v = argOf nf fr x := fun k v hk => by
        rw [List.getElem?_map, Option.map_eq_some_iff] at hk
        obtain ⟨x, hx, rfl⟩ := hk
        exact ⟨a.eval x, by rw [List.getElem?_map, hx]; rfl, evA h nf x, x, rfl⟩
      rw [hvals] at hv
      have hvl : ((parts.toList.map (·.2)).map (argOf nf fr)).length = n := by simpa using hpl
      have hyl : ((parts.toList.map (·.2)).map a.eval).length = n := by simpa using hpl
      generalize hvs : (parts.toList.map (·.2)).map (argOf nf fr) = vs at *
      generalize hys : (parts.toList.map (·.2)).map a.eval = ys at *
      by_cases hn : n = 0
      · subst hn
        have hvs0 : vs = [] := List.length_eq_zero_iff.1 hvl
        subst hvs0
        simp only [mapO, List.all_nil, if_true, Option.some.injEq] at hv
        subst hv
        have hp0 : parts = #[] := by
          have : parts.toList = [] := List.length_eq_zero_iff.1 hpl
          rw [← Array.toArray_toList (xs := parts), this]
        have hrun : (execOp a.eval o).run P w = .ok (.value (.slice (some ⟨w.heap.size, 0, none⟩) 0 0)) (w.alloc (.cells #[] e)) := by
          subst hp0
          simp only [execOp, ho, Instr.buildSlice, Sem.run_bind, run_und hQ hu, Result.andThen_ok, run_sizeOf hQ hsz]
          have e0 : ∀ f : Nat → Value, Array.map f (Array.range 0) = #[] := fun f => by apply Array.ext <;> simp
          simp [Instr.fill, newRow, e0]
        obtain ⟨r1, r2⟩ := h.idle (.cells #[] e)
        intro next Qe hnx
        unfold Oper.wp
        rw [hrun]
        exact hnx g _ _ ⟨r1.withV0 (.own0 _) (fun B => pm_own_nil B _), r2 _ hDnew, .refl fr, fun _ _ => rfl⟩
      · have hpos : 0 < n * i.size := Nat.mul_pos (by omega) c2
        have main : ∀ (hcs : ∀ y, y ∈ ys → y.cells.size = i.size), ∃ zs, (execOp a.eval o).run P w = .ok (.value (.slice (some ⟨w.heap.size, 0, none⟩) n n)) (w.alloc (.cells zs e)) ∧ zs.size = n * i.size ∧
            ∀ (k j : Nat) (y : Value), ys[k]? = some y → j < i.size → zs.getD (k * i.size + j) undef = y.cells.getD j undef := by
          intro hcs
          obtain ⟨zs, z1, z2, z3, _⟩ := fill_range ys 0 ((Array.range (n * i.size)).map (z.cells[· % z.cells.size]!)) hcs (by simp [hyl])
          rw [hyl] at z1
          refine ⟨zs, ?_, by rw [z2]; simp, fun k j y hk hj => by have := z3 k j y hk hj; rwa [Nat.zero_add] at this⟩
          have := run_buildSlice (P := P) w t e n (parts.map fun (i, x) => (i, a.eval x)) zs i z (hQ.und _ _ hu) hie hiz (by omega) (by omega) (by rw [hps]; exact z1)
          simp only [execOp, ho, Sem.run_bind, this, Result.andThen_ok, Sem.run_pure]
        split at hv
        · rename_i es hes
          split at hv
          · rename_i hok
            simp only [Option.some.injEq] at hv
            subst hv
            obtain ⟨ml, mg⟩ := mapO_some hes
            have hel : es.length = n := by omega
            have elem : ∀ (k : Nat) (y : Value), ys[k]? = some y → ∃ e', es[k]? = some e' ∧ RepP w g.X e' y := fun k y hk => by
              have hkl := lt_of_get hk
              obtain ⟨v, hv⟩ : ∃ v, vs[k]? = some v := ⟨_, List.getElem?_eq_getElem (by omega)⟩
              obtain ⟨y', h1, h2, _⟩ := hrepv k v hv
              rw [hk] at h1
              simp only [Option.some.injEq] at h1
              subst h1
              obtain ⟨e', h3, h4⟩ := mg k v hv
              exact ⟨e', h3, pureEl_rel h2 h4⟩
            rw [List.all_eq_true] at hok
            have eok : ∀ e' ∈ es, e'.cells.length = i.size ∧ e'.cells.all PV.cellOk = true := fun e' he => by
              have := hok e' he
              simp only [elOk, Bool.and_eq_true, beq_iff_eq] at this
              exact this
            obtain ⟨zs, hrun, hzs, hget⟩ := main fun y hy => by
              obtain ⟨k, hk⟩ := List.getElem?_of_mem hy
              obtain ⟨e', h1, h2⟩ := elem k y hk
              obtain ⟨o1, o2⟩ := eok e' (List.mem_of_getElem? h1)
              rw [(h2.cells_rel o2).1, o1]
            obtain ⟨r1, r2⟩ := h.newOwn (es := es) (by rintro rfl; simp at hel; omega) (zs := zs) e (cap := n) (sz := i.size) hzs (by omega) (fun e' he => (eok e' he).1) (fun k e' j c hk hj => by
              obtain ⟨y, hy⟩ : ∃ y, ys[k]? = some y := ⟨_, List.getElem?_eq_getElem (by have := lt_of_get hk; omega)⟩
              obtain ⟨e2, h1, h2⟩ := elem k y hy
              rw [hk] at h1
              simp only [Option.some.injEq] at h1
              subst h1
              obtain ⟨o1, o2⟩ := eok e' (List.mem_of_getElem? hk)
              rw [hget k j y hy (by have := lt_of_get hj; omega)]
              exact (h2.cells_rel o2).2 j c hj)
            intro next Qe hnx
            unfold Oper.wp
            rw [hrun]
            rw [hel] at r1
            have r2' := r2 _ hDnew
            exact hnx _ _ _ ⟨r1, by rw [hel] at r2'; exact r2', .refl fr, fun _ _ => rfl⟩
          · cases hv
        · split at hv
          · rename_i hok
            simp only [Option.some.injEq] at hv
            rw [List.all_eq_true] at hok
            have rok : ∀ v ∈ vs, v.cells.length = i.size ∧ v.cells.all V.cellOk = true := fun v hv => by
              have := hok v hv
              simp only [rowOk, Bool.and_eq_true, beq_iff_eq] at this
              exact this
            obtain ⟨zs, hrun, hzs, hget⟩ := main fun y hy => by
              obtain ⟨k, hk⟩ := List.getElem?_of_mem hy
              obtain ⟨v, hv⟩ : ∃ v, vs[k]? = some v := ⟨_, List.getElem?_eq_getElem (by have := lt_of_get hk; omega)⟩
              obtain ⟨y', h1, h2, _⟩ := hrepv k v hv
              rw [hk] at h1
              simp only [Option.some.injEq] at h1
              subst h1
              obtain ⟨o1, o2⟩ := rok v (List.mem_of_getElem? hv)
              rw [(h2.cells o2).1, o1]
            have hrows : ((parts.toList.map fun x => (x.1, argOf nf fr x.2)).map (·.2.cells)) = vs.map V.cells := by rw [← hvs]; simp
            rw [hrows] at hv
            have hl : (vs.map V.cells).length = n := by simpa using hvl
            obtain ⟨r1, r2⟩ := h.newArr (rs := vs.map V.cells) (zs := zs) e (cap := n) c2 hzs (by omega) (fun k r hk => by
              rw [List.getElem?_map, Option.map_eq_some_iff] at hk
              obtain ⟨v, hv, rfl⟩ := hk
              exact (rok v (List.mem_of_getElem? hv)).1) (fun k r j c hk hj => by
              rw [List.getElem?_map, Option.map_eq_some_iff] at hk
              obtain ⟨v, hv, rfl⟩ := hk
              obtain ⟨y, h1, h2, _⟩ := hrepv k v hv
              obtain ⟨o1, o2⟩ := rok v (List.mem_of_getElem? hv)
              rw [hget k j y h1 (by have := lt_of_get hj; omega)]
              exact (h2.cells o2).2.1 j c hj) (fun r hr B ys' k' => by
              obtain ⟨v, hv, rfl⟩ := List.mem_map.1 hr
              obtain ⟨k, hk⟩ := List.getElem?_of_mem hv
              obtain ⟨y, _, _, x, rfl⟩ := hrepv k v hk
              exact pmL_argCells nf fr x B ys' k')
            rw [hl] at r1
            subst hv
            intro next Qe hnx
            unfold Oper.wp
            rw [hrun]
            exact hnx _ _ _ ⟨r1, r2 _ hDnew, .refl fr, old_more h hK⟩
          · cases hv
    · cases hv
  · cases hv

end
end Go.Wn

namespace Go.Wn
open Go

section
variable {P : Program} {E : Env} {K : Ctx} {o : Oper} {Cx : Nat → Nat} {g : Gh} {w : World} {a : Act} {fr : Fr} {m : Mem}

theorem made_get {z : Array Value} {n sz k j : Nat} (hz : z.size = sz) (hk : k < n) (hj : j < sz) : (madeCells z (n * sz)).getD (k * sz + j) undef = z.getD j undef := by
  have hlt := ix_lt hk hj
  have hmod : (k * sz + j) % sz = j := by rw [Nat.add_comm, Nat.add_mul_mod_self_right, Nat.mod_eq_of_lt hj]
  have hj' : j < z.size := by omega
  simp only [madeCells, Array.getD_eq_getD_getElem?, Array.getElem?_map, Array.getElem?_range, hlt, if_true, Option.map_some, Option.getD_some, hz, hmod]
  simp [hj']

theorem ok_makeSlice (hQ : TabOk P E.Q) (h : Rel Cx g w a.tmps fr m) (hK : K.ro ≤ m.h.length) (nf : Bool) {t : TypeId} {l c : Operand} (ho : o.op = .makeSlice t l c) {r : V × Heap} (hv : makeArr E.Q nf m.h t (argOf nf fr l) (argOf nf fr c) = some r) :
    OpOk P E K o Cx g w a fr m ⟨r.1, ⟨m.lm, r.2⟩, fr⟩ := by
  have hl := evA h nf l
  have hc := evA h nf c
  unfold makeArr at hv
  split at hv
  · rename_i e hu
    simp only [Option.bind_eq_some_iff] at hv
    obtain ⟨sz, hsz, by_, hby, z, hz, n, hn, n2, hn2, hv⟩ := hv
    split at hv
    · rename_i hcnd
      obtain ⟨c1, c2, c3, c4, c5, c6⟩ := hcnd
      simp only [Option.some.injEq] at hv
      subst hv
      obtain ⟨k, N⟩ := n
      obtain ⟨k2, N2⟩ := n2
      simp only at c1 c2 c4
      subst c1
      have el := toI_rep hl hn
      have ec := toI_rep hc hn2
      obtain ⟨i, hie, his⟩ := hQ.sz _ _ hsz
      obtain ⟨i2, hie2, hib⟩ := hQ.bt _ _ hby
      rw [hie] at hie2
      simp only [Option.some.injEq] at hie2
      subst hie2; subst his
      unfold zeroCells at hz
      split at hz
      · rename_i zv hq
        simp only [Option.some.injEq] at hz
        subst hz
        obtain ⟨i3, hie3, hiz⟩ := hQ.zero _ _ hq
        rw [hie] at hie3
        simp only [Option.some.injEq] at hie3
        subst hie3
        obtain ⟨f1, f2, f3⟩ := fits_some c4
        have hzs : zv.cells.size = i.size := by simpa using c5
        have hb' : (i.bytes : Int) * N ≤ 281474976710656 := by
          have h1 : ((N.toNat * i.bytes : Nat) : Int) ≤ 140737488355328 := by rw [hib]; omega
          rw [Int.natCast_mul, Int.toNat_of_nonneg c2] at h1
          rw [Int.mul_comm]; omega
        have hrun := run_make (P := P) w t e i zv (hQ.und _ _ hu) hie hiz k k2 N N c2 (Int.le_refl _) hb' (by omega)
        have hrl : (List.replicate N.toNat (zv.cells.toList.map (constCell nf))).length = N.toNat := List.length_replicate
        obtain ⟨r1, r2⟩ := h.newArr (rs := List.replicate N.toNat (zv.cells.toList.map (constCell nf))) (zs := madeCells zv.cells (N.toNat * i.size)) e (cap := N.toNat) c3 (size_madeCells _ _) (by rw [hrl]; exact Nat.le_refl _)
          (fun j r hj => by
            rw [List.getElem?_replicate] at hj
            split at hj
            · simp only [Option.some.injEq] at hj; subst hj; exact c5
            · cases hj) (fun j r q c' hj hq' => by
            rw [List.getElem?_replicate] at hj
            split at hj
            · rename_i hjn
              simp only [Option.some.injEq] at hj; subst hj
              have hql := lt_of_get hq'
              rw [c5] at hql
              rw [made_get hzs hjn hql]
              simp only [List.getElem?_map, Array.getElem?_toList, Option.map_eq_some_iff] at hq'
              obtain ⟨d, hd, rfl⟩ := hq'
              have : zv.cells.getD q undef = d := by simp [Array.getD_eq_getD_getElem?, hd]
              rw [this]
              exact rep_constCell g w nf d
            · cases hj) (fun r hr B ys k' => by
            rw [(List.mem_replicate.1 hr).2]
            exact pmL_constCells nf B _ ys k')
        rw [hrl] at r1
        intro next Qe hnx
        unfold Oper.wp
        have : (execOp a.eval o).run P w = .ok (.value (.slice (some ⟨w.heap.size, 0, none⟩) N.toNat N.toNat)) (w.alloc (.cells (madeCells zv.cells (N.toNat * i.size)) e)) := by
          simp only [execOp, ho, el, ec, Sem.run_bind, hrun, Result.andThen_ok, Sem.run_pure]
        rw [this]
        exact hnx _ _ _ ⟨r1, r2 _ (fun B hB => Dk_new h hB), .refl fr, old_more h hK⟩
      · cases hz
    · cases hv
  · cases hv

theorem getD_erase {es : Array MapEntry} {i j : Nat} (hi : i < es.size) : (es.eraseIdxIfInBounds i).getD j default = if j < i then es.getD j default else es.getD (j + 1) default := by
  simp only [Array.getD_eq_getD_getElem?]
  rw [Array.eraseIdxIfInBounds_eq, dif_pos hi, Array.getElem?_eraseIdx]
  split <;> rfl

theorem ok_delete (hQ : TabOk P E.Q) (h : Rel Cx g w a.tmps fr m) (nf : Bool) {c : Call} (ho : o.op = .call c) (hcal : c.callee = .builtin .delete) {x k : Operand} {t : TypeId} {ts : List TypeId}
    (ha : c.args.toList = [x, k]) (ht : c.argTypes.toList = t :: ts) {h' : Heap} (hv : mapDel E.Q K m.h t (argOf nf fr x) (argOf nf fr k) = some h') :
    OpOk P E K o Cx g w a fr m ⟨.nov, ⟨m.lm, h'⟩, fr⟩ := by
  have hx := evA h nf x
  have hk := evA h nf k
  have hc' : c = { callee := .builtin .delete, args := c.args, argTypes := c.argTypes } := by cases c; simp_all
  have hw : writesMem E o = true := by simp [writesMem, ho, hcal]
  have hargs : c.args.map a.eval = #[a.eval x, a.eval k] := by
    have : c.args = #[x, k] := by rw [← Array.toArray_toList (xs := c.args), ha]
    rw [this]; simp
  have hat : c.argTypes[0]? = some t := by rw [← Array.getElem?_toList, ht]; rfl
  unfold mapDel at hv
  split at hv
  · rename_i kt e b hu eb
    split at hv
    · rename_i ks vs hb
      simp only [Option.bind_eq_some_iff] at hv
      obtain ⟨kk, hkk, r, hr, hv⟩ := hv
      obtain ⟨ek, hfl, hfit⟩ := keyOf_some hkk
      rw [ek] at hk
      rw [eb] at hx
      obtain ⟨R, es, ck, hy, hρ, hh, h1, h2, h3, h4, h5⟩ := mp_inv h hx hb
      obtain ⟨dk, hdk⟩ := keyFits_und hfit
      have hck := checkKey_rel hQ hk hfit es.isEmpty
      have hfk := run_findKey hQ hdk hk (es := es.toList) (by simpa using h1) (fun j x hj => by rw [getD_toList]; exact h4 j x hj) hr
      have hmem : m.h.set b (.map ks vs) = m.h := by
        apply List.ext_getElem?
        intro j
        by_cases e : b = j
        · subst e; rw [List.getElem?_set_self (lt_of_get hb), hb]
        · rw [List.getElem?_set_ne e]
      split at hv
      · rename_i hro
        have hro : K.ro ≤ b := by simpa using hro
        split at hv
        · rename_i i
          simp only [Option.some.injEq] at hv
          subst hv
          have hi : i < ks.length := by have := (findK_lt ks 0 i hr).2; omega
          intro next Qe hn
          unfold Oper.wp
          have hrun : (execOp a.eval o).run P w = .ok (.value (.tuple #[])) { w with heap := w.heap.setIfInBounds R (.map (es.eraseIdxIfInBounds i) ck) } := by
            simp only [execOp, ho, resolve, hcal, invoke, builtin, hargs, Sem.run_bind, Sem.run_pure, Result.andThen_ok, Builtin.delete_, hat]
            simp only [List.getElem?_toArray, List.getElem?_cons_zero, List.getElem?_cons_succ, Sem.run_bind, run_und hQ hu, Result.andThen_ok, hy, Go.run_getObj_map (P := P) w _ _ _ hh, hck, hfk, hitOf, Option.map_some, Go.MapKept.run_setObj_map _ hh, Sem.run_pure]
          rw [hrun]
          have hsz : (es.eraseIdxIfInBounds i).size = es.size - 1 := by
            rw [Array.eraseIdxIfInBounds_eq, dif_pos (show i < es.size by omega), Array.size_eraseIdx]
          refine hn g _ undef (h.mapTurn hb hρ hh hro hw (by rw [hsz, List.length_eraseIdx_of_lt hi]; omega) (by rw [List.length_eraseIdx_of_lt hi, List.length_eraseIdx_of_lt (by omega)]; omega) (hasOwnL_erase h3) (fun w' fz j k' hj => ?_) fun w' up j v hj => ?_)
          · rw [getD_erase (by omega)]
            rw [List.getElem?_eraseIdx] at hj
            split at hj
            · rename_i hlt; rw [if_pos hlt]; exact (h4 j k' hj).mono fz
            · rename_i hlt; rw [if_neg hlt]; exact (h4 _ k' hj).mono fz
          · rw [getD_erase (by omega)]
            rw [List.getElem?_eraseIdx] at hj
            split at hj
            · rename_i hlt; rw [if_pos hlt]; exact up _ _ (hasOwnL_get vs j v h3 hj) (h5 j v hj)
            · rename_i hlt; rw [if_neg hlt]; exact up _ _ (hasOwnL_get vs _ v h3 hj) (h5 _ v hj)
        · simp only [Option.some.injEq] at hv
          subst hv
          intro next Qe hn
          unfold Oper.wp
          have hrun : (execOp a.eval o).run P w = .ok (.value (.tuple #[])) { w with heap := w.heap.setIfInBounds R (.map es ck) } := by
            simp only [execOp, ho, resolve, hcal, invoke, builtin, hargs, Sem.run_bind, Sem.run_pure, Result.andThen_ok, Builtin.delete_, hat]
            simp only [List.getElem?_toArray, List.getElem?_cons_zero, List.getElem?_cons_succ, Sem.run_bind, run_und hQ hu, Result.andThen_ok, hy, Go.run_getObj_map (P := P) w _ _ _ hh, hck, hfk, hitOf, Option.map_none, Go.MapKept.run_setObj_map _ hh, Sem.run_pure]
          rw [hrun]
          have := h.mapTurn (es' := es) (ck' := ck) hb hρ hh hro hw h1 h2 h3 (fun w' fz j k' hj => (h4 j k' hj).mono fz) (fun w' up j v hj => up _ _ (hasOwnL_get vs j v h3 hj) (h5 j v hj))
          rw [hmem] at this
          exact hn g _ undef this
      · cases hv
    · cases hv
  · cases hv

end
end Go.Wn
