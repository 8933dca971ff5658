/- Part of the proof: an evaluator of the model's code over pure trees, and what it computes. No condition of its own. -/
import Derived.Test.YtjpmhmpiglbioaaGreatDoorWa
import Derived.Test.YtjpmhmpiglbioaaGreatDoorWc
import Derived.Orders
set_option linter.unusedSimpArgs false
set_option linter.unusedVariables false
namespace Go.Wn
open Go

theorem cellOk_lf {v : V} (h : v.cellOk = true) : lf v = true := by
  cases v <;> first | rfl | (simp [V.cellOk] at h; done) | (simpa [V.cellOk, lf] using h)

/-- what a block holds -/
def blkLf : Blk → Bool
  | .var cs => lfL cs
  | .arr _ rs => rs.all lfL
  | .map _ vs => lfL vs
def blkRb (n : Nat) : Blk → Bool
  | .var cs => rbL n cs
  | .arr _ rs => rs.all (rbL n)
  | .map _ vs => rbL n vs

structure Wf (K : Ctx) (h : Heap) : Prop where
  ro : K.ro ≤ K.base
  base : K.base ≤ h.length
  lf : ∀ x ∈ h, blkLf x = true
  rb : ∀ (b : Nat) (x : Blk), b < K.base → h[b]? = some x → blkRb K.base x = true

/-- one heap after another -/
structure HInv (K : Ctx) (h h' : Heap) : Prop where
  len : h.length ≤ h'.length
  old : ∀ b, b < K.ro → h'[b]? = h[b]?
  lf : (∀ x ∈ h, blkLf x = true) → ∀ x ∈ h', blkLf x = true
  rb : ∀ k, k ≤ K.base → k ≤ h.length → (∀ (b : Nat) (x : Blk), b < k → h[b]? = some x → blkRb k x = true) → ∀ (b : Nat) (x : Blk), b < k → h'[b]? = some x → blkRb k x = true

theorem HInv.wf {K : Ctx} {h h' : Heap} (k : HInv K h h') (w : Wf K h) : Wf K h' :=
  ⟨w.ro, Nat.le_trans w.base k.len, k.lf w.lf, k.rb K.base (Nat.le_refl _) w.base w.rb⟩
theorem HInv.refl (K : Ctx) (h : Heap) : HInv K h h := ⟨Nat.le_refl _, fun _ _ => rfl, id, fun _ _ _ => id⟩
theorem HInv.trans {K : Ctx} {a b c : Heap} (h : HInv K a b) (k : HInv K b c) : HInv K a c :=
  ⟨Nat.le_trans h.len k.len, fun x hx => (k.old x hx).trans (h.old x hx), fun w => k.lf (h.lf w), fun n h1 h2 w => k.rb n h1 (Nat.le_trans h2 h.len) (h.rb n h1 h2 w)⟩

theorem HInv.snoc {K : Ctx} {h : Heap} {x : Blk} (hK : K.ro ≤ h.length) (hx : blkLf x = true) : HInv K h (h ++ [x]) where
  len := by simp
  old := fun b hb => by rw [List.getElem?_append_left (by omega)]
  lf := fun w y hy => by
    rcases List.mem_append.1 hy with h | h
    · exact w y h
    · simp at h; subst h; exact hx
  rb := fun k _ hk w b y hb hy => by
    rw [List.getElem?_append_left (by omega)] at hy
    exact w b y hb hy

theorem HInv.set {K : Ctx} {h : Heap} {b : Nat} {x' : Blk} (hro : K.ro ≤ b) (hlf : (∀ x ∈ h, blkLf x = true) → blkLf x' = true) (hrb : ∀ k, k ≤ K.base → (∀ x, h[b]? = some x → blkRb k x = true) → b < k → blkRb k x' = true) : HInv K h (h.set b x') where
  len := by simp
  old := fun c hc => by rw [List.getElem?_set_ne (by omega)]
  lf := fun w y hy => by
    rcases List.mem_or_eq_of_mem_set hy with h | h
    · exact w y h
    · subst h; exact hlf w
  rb := fun k hk _ w c y hc hy => by
    by_cases e : b = c
    · subst e
      rw [List.getElem?_set] at hy
      simp only [if_true] at hy
      split at hy
      · simp only [Option.some.injEq] at hy; subst hy; exact hrb k hk (fun x hx => w b x hc hx) hc
      · cases hy
    · rw [List.getElem?_set_ne e] at hy
      exact w c y hc hy

/-- blocks from n on are gone -/
theorem HInv.cut {K : Ctx} {h h' : Heap} (k : HInv K h h') (hK : K.ro ≤ h.length) : HInv K h (h'.take h.length) where
  len := by have := k.len; simp; omega
  old := fun b hb => by rw [List.getElem?_take, if_pos (by omega)]; exact k.old b hb
  lf := fun w y hy => k.lf w y (List.mem_of_mem_take hy)
  rb := fun n h1 h2 w b y hb hy => by
    rw [List.getElem?_take] at hy
    split at hy
    · exact k.rb n h1 h2 w b y hb hy
    · cases hy

/-- a larger base -/
theorem HInv.base_ {K : Ctx} {h h' : Heap} {n : Nat} (k : HInv ⟨K.ro, n⟩ h h') (hn : h.length ≤ n) : HInv K h h' :=
  ⟨k.len, k.old, k.lf, fun m _ h2 w => k.rb m (Nat.le_trans h2 hn) h2 w⟩

mutual
theorem lf_cp : ∀ v : V, lf v = true → lf (cp v) = true
  | .p _, _ => rfl
  | .own _, _ => rfl
  | .agg cs, h => by
    simp only [cp]
    unfold mkAgg
    split
    · rfl
    · simp only [lf] at h ⊢; exact lfL_cp cs h
  | .tup cs, h => by simp only [cp, lf] at h ⊢; exact lfL_cp cs h
  | .lptr _ _, h => h
  | .ptr _ _, _ => rfl
  | .aptr _ _ _ _, _ => rfl
  | .sl _ _ _ _, _ => rfl
  | .mp _, _ => rfl
  | .clo _ _ _, h => h
  | .ifc _ _, h => h
  | .und, _ => rfl
  | .nov, _ => rfl
theorem lfL_cp : ∀ cs : List V, lfL cs = true → lfL (cpL cs) = true
  | [], _ => rfl
  | c :: cs, h => by
    simp only [lfL, Bool.and_eq_true] at h
    simp only [cpL, lfL, lf_cp c h.1, lfL_cp cs h.2, Bool.and_self]
end

mutual
theorem rb_cp (n : Nat) : ∀ v : V, rb n v = true → rb n (cp v) = true
  | .p _, _ => rfl
  | .own _, _ => rfl
  | .agg cs, h => by
    simp only [cp]
    unfold mkAgg
    split
    · rfl
    · simp only [rb] at h ⊢; exact rbL_cp n cs h
  | .tup cs, h => by simp only [cp, rb] at h ⊢; exact rbL_cp n cs h
  | .lptr _ _, h => h
  | .ptr _ _, h => h
  | .aptr _ _ _ _, h => h
  | .sl _ _ _ _, h => h
  | .mp _, h => h
  | .clo _ _ _, h => h
  | .ifc _ _, h => h
  | .und, _ => rfl
  | .nov, _ => rfl
theorem rbL_cp (n : Nat) : ∀ cs : List V, rbL n cs = true → rbL n (cpL cs) = true
  | [], _ => rfl
  | c :: cs, h => by
    simp only [rbL, Bool.and_eq_true] at h
    simp only [cpL, rbL, rb_cp n c h.1, rbL_cp n cs h.2, Bool.and_self]
end

theorem lfL_append {xs ys : List V} : lfL (xs ++ ys) = (lfL xs && lfL ys) := by
  induction xs with
  | nil => simp [lfL]
  | cons x xs ih => simp [lfL, ih, Bool.and_assoc]
theorem rbL_append {n : Nat} {xs ys : List V} : rbL n (xs ++ ys) = (rbL n xs && rbL n ys) := by
  induction xs with
  | nil => simp [rbL]
  | cons x xs ih => simp [rbL, ih, Bool.and_assoc]
theorem lfL_all {xs : List V} : lfL xs = xs.all lf := by
  induction xs with
  | nil => rfl
  | cons x xs ih => simp [lfL, ih]
theorem rbL_all {n : Nat} {xs : List V} : rbL n xs = xs.all (rb n) := by
  induction xs with
  | nil => rfl
  | cons x xs ih => simp [rbL, ih]

theorem all_set_cells {p : V → Bool} {cs ds : List V} {j : Nat} (h : cs.all p = true) (hd : ds.all p = true) : (setCells cs j ds).all p = true := by
  unfold setCells
  rw [List.all_eq_true] at *
  intro x hx
  rcases List.mem_append.1 hx with hx | hx
  · rcases List.mem_append.1 hx with hx | hx
    · exact h x (List.mem_of_mem_take hx)
    · exact hd x hx
  · exact h x (List.mem_of_mem_drop hx)

mutual
theorem rb_mono {n k : Nat} (h : n ≤ k) : ∀ v : V, rb n v = true → rb k v = true
  | .p _, _ => rfl
  | .own _, _ => rfl
  | .agg cs, e => by simp only [rb] at e ⊢; exact rbL_mono h cs e
  | .tup cs, e => by simp only [rb] at e ⊢; exact rbL_mono h cs e
  | .lptr _ _, _ => rfl
  | .ptr _ _, e => by simp only [rb, decide_eq_true_eq] at e ⊢; omega
  | .aptr _ _ _ _, e => by simp only [rb, decide_eq_true_eq] at e ⊢; omega
  | .sl _ _ _ _, e => by simp only [rb, decide_eq_true_eq] at e ⊢; omega
  | .mp _, e => by simp only [rb, decide_eq_true_eq] at e ⊢; omega
  | .clo _ a b, e => by
    simp only [rb, Bool.and_eq_true] at e ⊢; exact ⟨rbL_mono h a e.1, rbL_mono h b e.2⟩
  | .ifc _ v, e => by simp only [rb] at e ⊢; exact rb_mono h v e
  | .und, _ => rfl
  | .nov, _ => rfl
theorem rbL_mono {n k : Nat} (h : n ≤ k) : ∀ cs : List V, rbL n cs = true → rbL k cs = true
  | [], _ => rfl
  | c :: cs, e => by
    simp only [rbL, Bool.and_eq_true] at e ⊢; exact ⟨rb_mono h c e.1, rbL_mono h cs e.2⟩
end

end Go.Wn

namespace Go.Wn
open Go

def noLam (g : Gh) : Gh := { g with lam := [] }

theorem lfL_get : ∀ (cs : List V) (j : Nat) (c : V), lfL cs = true → cs[j]? = some c → lf c = true := fun cs j c h hj => by
  rw [lfL_all, List.all_eq_true] at h
  exact h c (List.mem_of_getElem? hj)

theorem RepV.noLam {g : Gh} {w : World} {v : V} {y : Value} (h : RepV g w v y) : lf v = true → RepV (noLam g) w v y := by
  induction h with
  | p x y h => exact fun _ => .p x y h
  | own0 a => exact fun _ => .own0 a
  | own es cap sz B hne h hz ho => exact fun _ => .own es cap sz B hne h hz ho
  | agg cs ys hl h ih => exact fun e => .agg cs ys hl fun j c hj => ih j c hj (lfL_get cs j c (by simpa [lf] using e) hj)
  | tup cs ys hl h ih => exact fun e => .tup cs ys hl fun j c hj => ih j c hj (lfL_get cs j c (by simpa [lf] using e) hj)
  | lptr b j B h => intro e; simp [lf] at e
  | ptr b j B hs h => exact fun _ => .ptr b j B hs h
  | aptr b i j ver sz n y hy hs hv h => exact fun _ => .aptr b i j ver sz n y hy hs hv h
  | sl b off len ver sz n ad cap hl hs hv h => exact fun _ => .sl b off len ver sz n ad cap hl hs hv h
  | mp b R hs h => exact fun _ => .mp b R hs h
  | clo f fs bs xs ys ha hb o1 o2 h1 h2 ih1 ih2 =>
    intro e
    simp only [lf, Bool.and_eq_true] at e
    exact .clo f fs bs xs ys ha hb o1 o2 (fun j c hj => ih1 j c hj (lfL_get fs j c e.1 hj)) (fun j c hj => ih2 j c hj (lfL_get bs j c e.2 hj))
  | und y => exact fun _ => .und y
  | nov => exact fun _ => .nov

theorem BlkRel.noLam {g : Gh} {w : World} {R : Nat} {x : Blk} (h : BlkRel g w R x) (hl : blkLf x = true) : BlkRel (noLam g) w R x := by
  cases x with
  | var cs =>
    obtain ⟨ys, T, h1, h2, h3⟩ := h
    exact ⟨ys, T, h1, h2, fun j c hj => (h3 j c hj).noLam (lfL_get cs j c hl hj)⟩
  | arr sz rs =>
    obtain ⟨ys, T, cap, h1, h2, h3, h4, h5⟩ := h
    refine ⟨ys, T, cap, h1, h2, h3, h4, fun i r hi => ⟨(h5 i r hi).1, fun j c hj => ((h5 i r hi).2 j c hj).noLam ?_⟩⟩
    simp only [blkLf, List.all_eq_true] at hl
    exact lfL_get r j c (hl r (List.mem_of_getElem? hi)) hj
  | map ks vs =>
    obtain ⟨es, ck, h1, h2, h3, h4, h5, h6⟩ := h
    exact ⟨es, ck, h1, h2, h3, h4, h5, fun i v hi => (h6 i v hi).noLam (lfL_get vs i v hl hi)⟩

theorem HeapRel.noLam {g : Gh} {w : World} {h : Heap} (hr : HeapRel g w h) (hl : ∀ x ∈ h, blkLf x = true) : HeapRel (noLam g) w h :=
  ⟨hr.sh, hr.len, fun b x R hx hR => ⟨(hr.blk b x R hx hR).1, (hr.blk b x R hx hR).2.noLam (hl x (List.mem_of_getElem? hx))⟩, hr.un, hr.new⟩

def fr0 : Fr := ⟨[], .nov⟩

theorem frRel0 (g : Gh) (w : World) : FrRel g w fr0 #[] := fun t => by
  have h1 : rd fr0 t = .nov := rfl
  have h2 : (#[] : Array Value).getD t undef = undef := by simp
  rw [h1, h2]; exact .nov

/-- what a call of a function brings -/
structure CallPost (E : Env) (K : Ctx) (f : FuncId) (Cx : Nat → Nat) (g : Gh) (w : World) (h : Heap) (v : V) (h' : Heap) (y : Value) (g' : Gh) (w' : World) : Prop where
  rel : RelV Cx g' w' #[] fr0 ⟨[], h'⟩ v y
  stp : Stp (fun B => Cx B + hcnt B w (h.take (if 2 ≤ E.md f then h.length else K.ro)) g.ρ) g w g' w'
  old : ∀ b, b < (if 2 ≤ E.md f then h.length else K.ro) → g'.ρ[b]? = g.ρ[b]?

structure CallInv (E : Env) (K : Ctx) (f : FuncId) (h : Heap) (v : V) (h' : Heap) : Prop where
  lf : lf v = true
  inv : HInv K h h'
  quiet : 2 ≤ E.md f → h' = h

def CallOk (P : Program) (E : Env) (C : Handler) : Prop :=
  ∀ (K : Ctx) (f : FuncId) (as : List V) (h : Heap) (v : V) (h' : Heap), C K f as h = some (v, h') → Wf K h → lfL as = true →
    CallInv E K f h v h' ∧ ∀ (Cx : Nat → Nat) (g : Gh) (w : World) (ys : Array Value), RelV Cx g w #[] fr0 ⟨[], h⟩ (.tup as) (.tuple ys) →
      Calls P f ys w fun e w' => ∃ y g', e = .returned y ∧ CallPost E K f Cx g w h v h' y g' w'

section
variable {P : Program} {E : Env} {K : Ctx} {o : Oper} {g : Gh} {w : World} {a : Act}

theorem argsOf_rel (hQ : TabOk P E.Q) {nf sq : Bool} {S : Nat → Prop} {pre : List Oper} {tk : List Nat} : ∀ (xs : List Operand) (k : Nat) {Cx : Nat → Nat} {fr : Fr} {m : Mem}, Rel Cx g w a.tmps fr m → Ids P E sq S pre fr a.tmps w → (∀ t, tk ≠ [] → Operand.tmp t ∈ xs → S t) →
    RelV Cx g w a.tmps (argsOf E nf sq K.ro pre tk fr m xs k).2.2 (argsOf E nf sq K.ro pre tk fr m xs k).2.1 (.tup (argsOf E nf sq K.ro pre tk fr m xs k).1) (.tuple (xs.map a.eval).toArray) ∧ Lost fr (argsOf E nf sq K.ro pre tk fr m xs k).2.2 ∧
      (argsOf E nf sq K.ro pre tk fr m xs k).2.1.h.take K.ro = m.h.take K.ro
  | [], k, Cx, fr, m, h, _, _ => by
    simp only [argsOf]
    exact ⟨h.withV0 (.tup [] #[] rfl (by simp)) (fun B => by simp [pm, pmL]), .refl fr, trivial⟩
  | x :: xs, k, Cx, fr, m, h, hi, hS => by
    have comb : ∀ (v : V) (m1 : Mem) (fr1 : Fr), RelV Cx g w a.tmps fr1 m1 v (a.eval x) → Lost fr fr1 → m1.h.take K.ro = m.h.take K.ro →
        RelV Cx g w a.tmps (argsOf E nf sq K.ro pre tk fr1 m1 xs (k + 1)).2.2 (argsOf E nf sq K.ro pre tk fr1 m1 xs (k + 1)).2.1 (.tup (v :: (argsOf E nf sq K.ro pre tk fr1 m1 xs (k + 1)).1)) (.tuple ((x :: xs).map a.eval).toArray) ∧ Lost fr (argsOf E nf sq K.ro pre tk fr1 m1 xs (k + 1)).2.2 ∧
          (argsOf E nf sq K.ro pre tk fr1 m1 xs (k + 1)).2.1.h.take K.ro = m.h.take K.ro := by
      intro v m1 fr1 h1 h2 h0
      obtain ⟨h3, h4, h5⟩ := argsOf_rel hQ xs (k + 1) h1.toCx (hi.lost h2) fun t h ht => hS t h (by simp [ht])
      refine ⟨⟨h3.hp, h3.lm, h3.frm, fun B => ?_, fun B hB => ?_, ?_⟩, h2.trans h4, h5.trans h0⟩
      · have h5 := h3.one B
        simp only [pm, pmL] at h5 ⊢
        have e1 : pmL B (argsOf E nf sq K.ro pre tk fr1 m1 xs (k + 1)).1 ((x :: xs).map a.eval).toArray (0 + 1) = pmL B (argsOf E nf sq K.ro pre tk fr1 m1 xs (k + 1)).1 (xs.map a.eval).toArray 0 := pmL_congr fun i hi => by
          simp only [Array.getD_eq_getD_getElem?, List.getElem?_toArray, List.map_cons]
          rw [show 0 + 1 + i = (0 + i) + 1 from by omega, List.getElem?_cons_succ]
        rw [e1]
        simp only [Array.getD_eq_getD_getElem?, List.getElem?_toArray, List.map_cons, List.getElem?_cons_zero, Option.getD_some] at h5 ⊢
        omega
      · have := h3.cnew B hB; omega
      · obtain ⟨ys, e, hl, hc⟩ := tup_inv h3.val
        simp only [Value.tuple.injEq] at e
        refine .tup _ _ (by rw [← e] at hl; simp at hl ⊢; omega) fun j c hj => ?_
        cases j with
        | zero => simp at hj; subst hj; simpa [Array.getD_eq_getD_getElem?] using h1.val
        | succ j =>
          have := hc j c (by simpa using hj)
          rw [← e] at this
          simpa [Array.getD_eq_getD_getElem?] using this
    simp only [argsOf]
    split
    · rename_i htk
      obtain ⟨h1, h2⟩ := takeS_rel (ds := a.defers) (nf := nf) (ro := K.ro) hQ h hi x fun t e => hS t (fun e' => by rw [e'] at htk; cases htk) (by simp [e])
      exact comb _ _ _ h1 h2 (takeS_old x)
    · exact comb _ _ _ (h.withV0 (evA h nf x) fun B => pm_arg nf x B _) (.refl fr) rfl

end
end Go.Wn

namespace Go.Wn
open Go

theorem getCells_all {p : V → Bool} {cs : List V} {j n : Nat} (h : cs.all p = true) : ((cs.drop j).take n).all p = true := by
  rw [List.all_eq_true] at *
  exact fun x hx => h x (List.mem_of_mem_drop (List.mem_of_mem_take hx))

theorem unown_inv {K : Ctx} {m : Mem} {a : V} {n : Nat} (h : ownsAt K.ro a = true) : HInv K m.h (unown m a n).h := by
  unfold unown
  split
  · split <;> exact .refl _ _
  · rename_i b j
    simp only [ownsAt, decide_eq_true_eq] at h
    split
    · rename_i cs hb
      refine .set h (fun w => ?_) fun kk hkk w hbb => ?_
      · have := w _ (List.mem_of_getElem? hb)
        simp only [blkLf, lfL_all] at this ⊢
        refine all_set_cells this ?_
        rw [← lfL_all]
        exact lfL_cp _ (by rw [lfL_all]; exact getCells_all this)
      · have := w _ hb
        simp only [blkRb, rbL_all] at this ⊢
        refine all_set_cells this ?_
        rw [← rbL_all]
        exact rbL_cp _ _ (by rw [rbL_all]; exact getCells_all this)
    · exact .refl _ _
  · rename_i b i j v
    simp only [ownsAt, decide_eq_true_eq] at h
    split
    · rename_i sz rs hb
      split
      · rename_i cs hr
        refine .set h (fun w => ?_) fun kk hkk w hbb => ?_
        · have h1 := w _ (List.mem_of_getElem? hb)
          simp only [blkLf, List.all_eq_true] at h1 ⊢
          intro x hx
          rcases List.mem_or_eq_of_mem_set hx with hx | hx
          · exact h1 x hx
          · subst hx
            have h2 := h1 cs (List.mem_of_getElem? hr)
            simp only [lfL_all] at h2 ⊢
            refine all_set_cells h2 ?_
            rw [← lfL_all]
            exact lfL_cp _ (by rw [lfL_all]; exact getCells_all h2)
        · have h1 := w _ hb
          simp only [blkRb, List.all_eq_true] at h1 ⊢
          intro x hx
          rcases List.mem_or_eq_of_mem_set hx with hx | hx
          · exact h1 x hx
          · subst hx
            have h2 := h1 cs (List.mem_of_getElem? hr)
            simp only [rbL_all] at h2 ⊢
            refine all_set_cells h2 ?_
            rw [← rbL_all]
            exact rbL_cp _ _ (by rw [rbL_all]; exact getCells_all h2)
      · exact .refl _ _
    · exact .refl _ _
  · exact .refl _ _

theorem takeS_inv {E : Env} {K : Ctx} {nf sq : Bool} {pre : List Oper} {fr : Fr} {m : Mem} (x : Operand) : HInv K m.h (takeS E nf sq K.ro pre fr m x).2.1.h := by
  cases x with
  | tmp t =>
    simp only [takeS]
    split
    · exact .refl _ _
    · split
      · split <;> exact .refl _ _
      · split
        · split
          · exact .refl _ _
          · split
            · exact .refl _ _
            · split
              · rename_i hc
                simp only [Bool.and_eq_true] at hc
                split
                · exact unown_inv hc.2
                · exact .refl _ _
              · exact .refl _ _
        · exact .refl _ _
  | _ => exact .refl _ _

theorem argsOf_inv {E : Env} {K : Ctx} {nf sq : Bool} {pre : List Oper} {tk : List Nat} : ∀ (xs : List Operand) (k : Nat) (fr : Fr) (m : Mem), HInv K m.h (argsOf E nf sq K.ro pre tk fr m xs k).2.1.h
  | [], _, _, _ => .refl _ _
  | x :: xs, k, fr, m => by
    simp only [argsOf]
    split
    · exact (takeS_inv x).trans (argsOf_inv xs (k + 1) _ _)
    · exact argsOf_inv xs (k + 1) _ _

theorem takesOf_inv {E : Env} {K : Ctx} {nf sq : Bool} {pre : List Oper} : ∀ (xs : List Operand) (fr : Fr) (m : Mem), HInv K m.h (takesOf E nf sq K.ro pre fr m xs).2.1.h
  | [], _, _ => .refl _ _
  | x :: xs, fr, m => by
    simp only [takesOf]
    exact (takeS_inv x).trans (takesOf_inv xs _ _)

end Go.Wn

namespace Go.Wn
open Go

theorem okFn_some {P : Program} {Q : Tab} (hQ : TabOk P Q) {f : Nat} (h : okFn Q f = true) : ∃ fn, P.funcs[f]? = some fn ∧ fn.body.isSome = true ∧ ¬ fn.name = "runtime.NumGoroutine" := by
  unfold okFn at h
  split at h
  · rename_i fn hf
    simp only [Bool.and_eq_true, bne_iff_ne, ne_eq] at h
    exact ⟨fn, hQ.fn _ _ hf, h.1, by simpa using h.2⟩
  · cases h

theorem tup_append {g : Gh} {w : World} {as bs : List V} {xs ys : Array Value} (ha : xs.size = as.length) (h1 : ∀ (j : Nat) (c : V), as[j]? = some c → RepV g w c (xs.getD j undef)) (h2 : ∀ (j : Nat) (c : V), bs[j]? = some c → RepV g w c (ys.getD j undef)) :
    (∀ (j : Nat) (c : V), (as ++ bs)[j]? = some c → RepV g w c ((xs ++ ys).getD j undef)) ∧ ∀ B, pmL B (as ++ bs) (xs ++ ys) 0 = pmL B as xs 0 + pmL B bs ys 0 := by
  refine ⟨fun j c hj => ?_, fun B => ?_⟩
  · rw [List.getElem?_append] at hj
    simp only [Array.getD_eq_getD_getElem?]
    split at hj
    · rw [Array.getElem?_append_left (by omega)]
      have := h1 j c hj
      simpa [Array.getD_eq_getD_getElem?] using this
    · rw [Array.getElem?_append_right (by omega), ha]
      have := h2 _ c hj
      simpa [Array.getD_eq_getD_getElem?] using this
  · rw [pmL_append]
    congr 1
    · refine pmL_congr fun i hi => ?_
      simp only [Array.getD_eq_getD_getElem?, Nat.zero_add]
      rw [Array.getElem?_append_left (by omega)]
    · refine pmL_congr fun i hi => ?_
      simp only [Array.getD_eq_getD_getElem?, Nat.zero_add]
      rw [Array.getElem?_append_right (by omega), ha, show as.length + i - as.length = i from by omega]

section
variable {P : Program} {E : Env} {K : Ctx} {o : Oper} {Cx : Nat → Nat} {g : Gh} {w : World} {a : Act} {fr : Fr} {m : Mem}

/-- into a call -/
theorem RelV.enter {tm : Array Value} {as : List V} {ys : Array Value} (h : RelV Cx g w tm fr m (.tup as) (.tuple ys)) (hl : lfL as = true) (hw : ∀ x ∈ m.h, blkLf x = true) :
    RelV (fun B => Cx B + fcnt B fr tm + lcnt B w m.lm g.lam) (noLam g) w #[] fr0 ⟨[], m.h⟩ (.tup as) (.tuple ys) := by
  refine ⟨h.hp.noLam hw, ⟨rfl, fun b cs R hx => by simp at hx⟩, frRel0 _ _, fun B => ?_, fun B hB => ?_, h.val.noLam (by simpa [lf] using hl)⟩
  · have := h.one B
    have e1 : fcnt B fr0 #[] = 0 := rfl
    have e2 : lcnt B w [] (noLam g).lam = 0 := rfl
    show fcnt B fr0 #[] + lcnt B w [] (noLam g).lam + hcnt B w m.h g.ρ + pm B (.tup as) (.tuple ys) + (Cx B + fcnt B fr tm + lcnt B w m.lm g.lam) ≤ 1
    rw [e1, e2]; omega
  · have := h.cnt_lt hB; omega

/-- out of a call -/
theorem RelV.leave {tm : Array Value} {u v : V} {yu y : Value} {g' : Gh} {w' : World} {h' : Heap} (h : RelV Cx g w tm fr m u yu) {D : Nat → Nat} (hr : RelV (fun B => Cx B + fcnt B fr tm + lcnt B w m.lm g.lam) g' w' #[] fr0 ⟨[], h'⟩ v y)
    (hs : Stp (fun B => Cx B + fcnt B fr tm + lcnt B w m.lm g.lam + D B) (noLam g) w g' w') :
    RelV Cx { g' with lam := g.lam } w' tm fr ⟨m.lm, h'⟩ v y ∧ Stp (fun B => Cx B + fcnt B fr tm + lcnt B w m.lm g.lam + D B) g w { g' with lam := g.lam } w' := by
  have hg'l : g'.lam = [] := List.length_eq_zero_iff.1 hr.lm.len
  have ge1 : GhLe g' { g' with lam := g.lam } := ⟨fun b B e => by rw [hg'l] at e; simp at e, fun _ _ e1 e2 => ⟨e1, e2⟩, fun _ _ n e => ⟨n, e, Nat.le_refl _, fun _ _ e => e⟩, fun _ e => ⟨e, rfl⟩⟩
  have ge2 : GhLe g { g' with lam := g.lam } := ⟨fun b B e => e, fun b B e1 e2 => hs.ge.pt b B e1 e2, fun b sz n e => hs.ge.sh b sz n e, fun b e => hs.ge.un b e⟩
  have st : Stp (fun B => Cx B + fcnt B fr tm + lcnt B w m.lm g.lam + D B) g w { g' with lam := g.lam } w' := { fz := hs.fz, sh := hs.sh, kp := hs.kp, ge := ge2, os := hs.os, tape := hs.tape, output := hs.output, size := hs.size }
  have up : ∀ {v : V} {y : Value}, RepV g' w' v y → RepV { g' with lam := g.lam } w' v y := fun hv => RepV.mono (g' := { g' with lam := g.lam }) (Fzn.refl w' g'.X) (Shp.refl w') ge1 hv fun _ _ => rfl
  have k2 : Kp (fun B => lcnt B w m.lm g.lam) w w' g.X g'.X := (st.mono fun B => by omega).kp
  refine ⟨⟨⟨hr.hp.sh, hr.hp.len, fun b x R hx hR => ⟨(hr.hp.blk b x R hx hR).1, BlkRel.mono (g' := { g' with lam := g.lam }) (Fzn.refl w' g'.X) (Shp.refl w') ge1 rfl (fun _ _ => rfl) (hr.hp.blk b x R hx hR).2⟩, hr.hp.un, hr.hp.new⟩,
    h.lm.mono st.fz st.sh ge2 rfl k2, h.frm.mono st.fz st.sh ge2 (st.mono fun B => by omega).kp, fun B => ?_, fun B hB => ?_, up hr.val⟩, st⟩
  · have h1 := hr.one B
    have e1 : fcnt B fr0 #[] = 0 := rfl
    have e2 : lcnt B w' [] g'.lam = 0 := rfl
    have e3 : lcnt B w' m.lm g.lam = lcnt B w m.lm g.lam := LmRel.cnt_keep k2 B
    show fcnt B fr tm + lcnt B w' m.lm g.lam + hcnt B w' h' g'.ρ + pm B v y + Cx B ≤ 1
    rw [e3]
    simp only at h1
    omega
  · have := hr.cnew B hB; omega

end
end Go.Wn

namespace Go.Wn
open Go

section
variable {P : Program} {E : Env} {K : Ctx} {o : Oper} {Cx : Nat → Nat} {g : Gh} {w : World} {a : Act} {fr : Fr} {m : Mem}

theorem hids_take (B : Nat) (w : World) (h : Heap) (ρ : List (Option Nat)) : hids ρ h.length B ≤ hcnt B w h ρ := hids_le B w h ρ

theorem ok_call (hQ : TabOk P E.Q) {C : Handler} (hC : CallOk P E C) (h : Rel Cx g w a.tmps fr m) (hK : Wf K m.h) {nf sq : Bool} {pre : List Oper} {S : Nat → Prop} (hi : Ids P E sq S pre fr a.tmps w) {c : Call} (ho : o.op = .call c) {gx : Operand} (hc : c.callee = .value gx)
    {gf : FuncId} {fa fb : List V} (hg : argOf nf fr gx = .clo (.func gf) fa fb) (hfn : okFn E.Q gf = true) {tk : List Nat} (hS : ∀ t, tk ≠ [] → Operand.tmp t ∈ c.args.toList → S t)
    (hl : lfL (fa ++ (argsOf E nf sq K.ro pre tk fr m c.args.toList 0).1 ++ fb) = true) {r : V × Heap} (hmd : writesMem E o = false → 2 ≤ E.md gf)
    (hr : C K gf (fa ++ (argsOf E nf sq K.ro pre tk fr m c.args.toList 0).1 ++ fb) (argsOf E nf sq K.ro pre tk fr m c.args.toList 0).2.1.h = some r) :
    OpOk P E K o Cx g w a fr m ⟨r.1, ⟨(argsOf E nf sq K.ro pre tk fr m c.args.toList 0).2.1.lm, r.2⟩, (argsOf E nf sq K.ro pre tk fr m c.args.toList 0).2.2⟩ := by
  obtain ⟨h1, h2, h3⟩ := argsOf_rel (K := K) (nf := nf) (tk := tk) hQ c.args.toList 0 h hi hS
  have h4 := argsOf_inv (E := E) (K := K) (nf := nf) (sq := sq) (pre := pre) (tk := tk) c.args.toList 0 fr m
  generalize argsOf E nf sq K.ro pre tk fr m c.args.toList 0 = q at *
  obtain ⟨vs, m1, fr1⟩ := q
  simp only at *
  have hgx := evA h nf gx
  rw [hg] at hgx
  generalize hgy : a.eval gx = gy at hgx
  cases hgx with
  | clo f0 fs bs xs zs ha hb o1 o2 p1 p2 =>
    obtain ⟨ys, e, hyl, hyc⟩ := tup_inv h1.val
    simp only [Value.tuple.injEq] at e
    subst e
    obtain ⟨t1, t2⟩ := tup_append (as := fa) (bs := vs) ha p1 hyc
    obtain ⟨t3, t4⟩ := tup_append (as := fa ++ vs) (bs := fb) (by simp [ha]; simpa using hyl) t1 p2
    have h5 : RelV Cx g w a.tmps fr1 m1 (.tup (fa ++ vs ++ fb)) (.tuple (xs ++ (c.args.toList.map a.eval).toArray ++ zs)) := by
      refine ⟨h1.hp, h1.lm, h1.frm, fun B => ?_, h1.cnew, .tup _ _ (by simp at hyl ⊢; omega) t3⟩
      have := h1.one B
      simp only [pm] at this ⊢
      rw [t4 B, t2 B, o1 B, o2 B]
      omega
    obtain ⟨ci, hcalls⟩ := hC K gf _ _ _ _ hr (h4.wf hK) hl
    have h6 := h5.enter hl (h4.wf hK).lf
    have h7 := hcalls _ _ _ _ h6
    obtain ⟨fn, f1, f2, f3⟩ := okFn_some hQ hfn
    intro next Qe hn
    unfold Oper.wp
    have hargs : c.args.map a.eval = (c.args.toList.map a.eval).toArray := by apply Array.ext'; simp
    have hrun : (execOp a.eval o).run P w = .ok (.enter gf (xs ++ (c.args.toList.map a.eval).toArray ++ zs)) w := by
      cases hb : fn.body with
      | none => rw [hb] at f2; cases f2
      | some body => simp [execOp, ho, resolve, hc, Deferred.ofValue, invoke, callFunc, hgy, f1, f3, hb, hargs]
    rw [hrun]
    show Calls P gf _ w _
    refine Calls.mono h7 fun e w' he => ?_
    obtain ⟨y, g', rfl, hp⟩ := he
    have hst := hp.stp
    have hst' : Stp (fun B => Cx B + fcnt B fr1 a.tmps + lcnt B w m1.lm g.lam + hcnt B w (m1.h.take (if 2 ≤ E.md gf then m1.h.length else K.ro)) g.ρ) (noLam g) w g' w' := hst
    obtain ⟨l1, l2⟩ := h5.leave (D := fun B => hcnt B w (m1.h.take (if 2 ≤ E.md gf then m1.h.length else K.ro)) g.ρ) hp.rel hst'
    refine hn _ _ y ⟨l1, { l2 with kp := fun B hB => l2.kp B ?_ }, h2, fun b hb => hp.old b ?_⟩
    · have e1 : m1.lm.length = m.lm.length := by rw [← h5.lm.len, ← h.lm.len]
      have e2 : m1.h.length = m.h.length := by rw [← h5.hp.len, ← h.hp.len]
      have e3 := lids_le B w m1.lm g.lam
      have e4 := hids_le B w m1.h g.ρ
      rw [e1] at e3
      rw [e2] at e4
      unfold Dk at hB
      rw [← h3] at hB
      show 0 < Cx B + fcnt B fr1 a.tmps + lcnt B w m1.lm g.lam + hcnt B w (m1.h.take (if 2 ≤ E.md gf then m1.h.length else K.ro)) g.ρ
      have e5 := hcnt_take_le (B := B) (k := K.ro) (w := w) (h := m1.h) (ρ := g.ρ)
      by_cases hq : 2 ≤ E.md gf
      · rw [if_pos hq, List.take_length]
        split at hB <;> split at hB <;> omega
      · have hwm : writesMem E o = true := by
          cases e : writesMem E o with
          | true => rfl
          | false => exact absurd (hmd e) hq
        rw [if_neg hq]
        simp only [hwm, if_true] at hB
        split at hB <;> omega
    · have := (h4.wf hK)
      have h8 := this.ro; have h9 := this.base
      split <;> omega

end
end Go.Wn

namespace Go.Wn
open Go

section
variable {P : Program} {E : Env} {K : Ctx} {o : Oper} {Cx : Nat → Nat} {g : Gh} {w : World} {a : Act} {fr : Fr} {m : Mem}

theorem evBuiltin_sound (hQ : TabOk P E.Q) (h : Rel Cx g w a.tmps fr m) (hK : Wf K m.h) {f rid : Nat} {tkOn : Bool} {pre : List Oper} {S : Nat → Prop} (hi : Ids P E tkOn S pre fr a.tmps w) {c : Call} (ho : o.op = .call c) {b : Builtin} (hc : c.callee = .builtin b) {r : Out}
    (hS : ∀ t, b = .append → Operand.tmp t ∈ c.args.toList → S t)
    (hev : evBuiltin E K f rid tkOn pre b c.args.toList c.argTypes.toList fr m = some r) : OpOk P E K o Cx g w a fr m r := by
  have hro : K.ro ≤ m.h.length := Nat.le_trans hK.ro hK.base
  unfold evBuiltin at hev
  split at hev
  · split at hev
    · rename_i s x t tx ha ht
      split at hev
      · cases hev
      · rename_i htx
        simp only [Option.map_eq_some_iff] at hev
        obtain ⟨q, hq, rfl⟩ := hev
        exact ok_append hQ h hro hi ho hc (fun t e => hS t rfl (by rw [ha, e]; simp)) ha ht (by simpa using htx) hq
    · cases hev
  · split at hev
    · rename_i x t ha ht
      simp only [Option.map_eq_some_iff] at hev
      obtain ⟨q, hq, rfl⟩ := hev
      exact ok_len hQ h _ ho hc ha ht hq
    · cases hev
  · split at hev
    · rename_i x y ha
      split at hev
      · rename_i k p k' q e1 e2
        split at hev
        · rename_i hk
          subst hk
          simp only [Option.some.injEq] at hev
          subst hev
          exact ok_min h _ ho hc ha e1 e2
        · cases hev
      · cases hev
    · cases hev
  · split at hev
    · rename_i x k t ts ha ht
      simp only [Option.map_eq_some_iff] at hev
      obtain ⟨q, hq, rfl⟩ := hev
      exact ok_delete hQ h _ ho hc ha ht hq
    · cases hev
  · cases hev

theorem evCall_sound (hQ : TabOk P E.Q) {C : Handler} (hC : CallOk P E C) (h : Rel Cx g w a.tmps fr m) (hK : Wf K m.h) {f rid : Nat} {tkOn : Bool} {pre : List Oper} {S : Nat → Prop} (hi : Ids P E tkOn S pre fr a.tmps w) {c : Call} (ho : o.op = .call c) {r : Out}
    (hS : ∀ t, (tkOn = true ∨ clsOf E o = 3) → Operand.tmp t ∈ c.args.toList → S t)
    (hg : ∀ g0 gf x y, c.callee = .value g0 → argOf (E.nilF f) fr g0 = .clo (.func gf) x y → writesMem E o = false → 2 ≤ E.md gf)
    (hev : evCall E C K f rid tkOn pre c fr m = some r) : OpOk P E K o Cx g w a fr m r := by
  unfold evCall at hev
  split at hev
  · rename_i g0 hc
    split at hev
    · rename_i gf x y hx
      have htk : (if (tkOn || decide (E.md gf < 2)) = true then E.tk gf else []) ≠ [] → tkOn = true ∨ clsOf E o = 3 := by
        intro hne
        split at hne
        · rename_i hcd
          simp only [Bool.or_eq_true, decide_eq_true_eq] at hcd
          refine hcd.imp id fun hlt => ?_
          unfold clsOf
          rw [ho]
          simp only [hc]
          cases g0 with
          | func gf' =>
            simp only [argOf, V.clo.injEq, Fn.func.injEq] at hx
            rw [hx.1]
            show (if 2 ≤ E.md gf then 2 else 3) = 3
            rw [if_neg (by omega)]
          | _ => rfl
        · exact absurd rfl hne
      generalize (if (tkOn || decide (E.md gf < 2)) = true then E.tk gf else []) = tkl at hev htk
      dsimp only at hev
      split at hev
      · rename_i hcnd
        simp only [Bool.and_eq_true] at hcnd
        simp only [Option.map_eq_some_iff] at hev
        obtain ⟨q, hq, rfl⟩ := hev
        exact ok_call hQ hC h hK hi ho hc hx hcnd.1 (fun t ht hm => hS t (htk ht) hm) hcnd.2 (hg g0 gf x y hc hx) hq
      · cases hev
    · cases hev
  · cases hev
  · rename_i b hc
    refine evBuiltin_sound hQ h hK hi ho hc (fun t e hm => hS t (.inr ?_) hm) hev
    unfold clsOf
    rw [ho]
    simp only [hc, e]

end
end Go.Wn

namespace Go.Wn
open Go

/-- what stands at an address, as a value was loaded from it -/
def Cell1 (E : Env) (g : Gh) (w : World) (tm : Array Value) (fr : Fr) (ty : TypeId) (a : Nat) (y : Value) : Prop :=
  ∃ (n : Nat) (b : Bool) (B off : Nat) (f : Nat → Value), E.Q.sz ty = some n ∧ aggT E.Q ty = some b ∧ (b = false → n = 1) ∧ tm.getD a undef = .pointer (some ⟨B, off, none⟩) ∧ y = valOf b n f ∧
    (∀ j, j < n → w.cell? ⟨B, off + j, none⟩ = some (f j)) ∧ (if isLptr (rd fr a) then ∃ b : Nat, g.lam[b]? = some B else (∃ b : Nat, g.ρ[b]? = some (some B)) ∨ ∀ j, j < n → off + j < g.X B)

def OpOk2 (P : Program) (E : Env) (K : Ctx) (o : Oper) (Cx : Nat → Nat) (g : Gh) (w : World) (a : Act) (fr : Fr) (m : Mem) (r : Out) : Prop :=
  ∀ (next : Act → World → Prop) (Qe : Exit → Act → World → Prop), (∀ g' w' y, Post E K o Cx g w a.tmps fr m r y g' w' → (∀ s, o.op = .move (.tmp s) → y = a.tmps.getD s undef) →
    (∀ ty s, o.op = .load ty (.tmp s) → g' = g ∧ w' = w ∧ Cell1 E g w a.tmps fr ty s y) → next (a.put o.dst y) w') → o.wp P a w next Qe

section
variable {P : Program} {E : Env} {K : Ctx} {o : Oper} {Cx : Nat → Nat} {g : Gh} {w : World} {a : Act} {fr : Fr} {m : Mem}

theorem OpOk.two {r : Out} (h : OpOk P E K o Cx g w a fr m r) (h1 : ∀ s, o.op ≠ .move (.tmp s)) (h2 : ∀ ty s, o.op ≠ .load ty (.tmp s)) : OpOk2 P E K o Cx g w a fr m r :=
  fun next Qe hn => h next Qe fun g' w' y hp => hn g' w' y hp (fun s e => absurd e (h1 s)) fun ty s e => absurd e (h2 ty s)

theorem ld_cov (h : Rel Cx g w a.tmps fr m) {x : V} {y : Value} {n : Nat} {vs : List V} {B off : Nat} (ha : RepV g w x y) (e : ld m x n = some vs) (hy : y = .pointer (some ⟨B, off, none⟩)) :
    if isLptr x then ∃ b : Nat, g.lam[b]? = some B else (∃ b : Nat, g.ρ[b]? = some (some B)) ∨ ∀ j, j < n → off + j < g.X B := by
  subst hy
  cases ha with
  | lptr b j _ hb => simp only [isLptr, if_true]; exact ⟨b, hb⟩
  | ptr b j _ hs hb => simp only [isLptr, Bool.false_eq_true, if_false]; exact .inl ⟨b, hb⟩
  | aptr b i j ver sz n' y hy hs hv hB =>
    simp only [isLptr, Bool.false_eq_true, if_false]
    unfold ld at e
    simp only at e
    cases hx : m.h[b]? with
    | none => simp [hx] at e
    | some x =>
      cases x with
      | var cs => simp [hx] at e
      | map ks vs => simp [hx] at e
      | arr sz' rs =>
        simp only [hx] at e
        split at e
        · rename_i hver
          have hsh : g.sh b = some (sz', rs.length) := by rw [h.hp.sh]; simp [shp, hx]
          rw [hs] at hsh
          simp only [Option.some.injEq, Prod.mk.injEq] at hsh
          obtain ⟨rfl, rfl⟩ := hsh
          obtain ⟨B', hb, hy'⟩ := hB hver.symm
          simp only [Value.pointer.injEq, Option.some.injEq, Addr.mk.injEq] at hy'
          rw [hy'.1]
          exact .inl ⟨b, hb⟩
        · cases e
  | p x y hp =>
    cases hp with
    | c x h => simp [ld] at e
    | ref cs o' B' o f hc hr =>
      simp only [isLptr, Bool.false_eq_true, if_false]
      unfold ld at e
      simp only at e
      split at e
      · refine .inr fun j hj => ?_
        have := (hc (o' + j) cs[o' + j] (by simp)).1
        omega
      · cases e
  | und y => simp [ld] at e

theorem ok_load2 (hQ : TabOk P E.Q) (h : Rel Cx g w a.tmps fr m) (nf : Bool) {t : TypeId} {x : Operand} (ho : o.op = .load t x) {n : Nat} (hn : E.Q.sz t = some n) {r : List V} (hr : ld m (argOf nf fr x) n = some r) {v : V} (hv : ofCells E.Q t (cpL r) = some v) :
    OpOk2 P E K o Cx g w a fr m ⟨v, m, fr⟩ := by
  have hx := evA h nf x
  obtain ⟨hl, B, off, f, hy, hc⟩ := ld_rel h hx hr
  have hc' : ∀ (j : Nat) (c : V), (cpL r)[j]? = some c → RepV g w c (f j) := fun j c hj => by
    rw [cpL_get] at hj
    simp only [Option.map_eq_some_iff] at hj
    obtain ⟨d, hd, rfl⟩ := hj
    exact (hc j d hd).2.cp
  obtain ⟨b, hb, hb1, hrep, _⟩ := ofCells_rel hv hc'
  rw [cpL_length, hl] at hb1 hrep
  have hcell : ∀ j, j < n → w.cell? ⟨B, off + j, none⟩ = some (f j) := fun j hj => (hc j r[j] (by simp [hl, hj])).1
  have hrun := run_loadAt (P := P) hQ hn hb hcell hb1
  intro next Qe hnx
  unfold Oper.wp
  have : (execOp a.eval o).run P w = .ok (.value (valOf b n f)) w := by simp [execOp, ho, hy, hrun, Result.andThen]
  rw [this]
  refine hnx g w _ (h.post0 hrep fun B => pm_noown B v _ (ofCells_noown hv (hasOwnL_cp r))) (fun s e => by rw [ho] at e; cases e) fun ty s e => ⟨rfl, rfl, ?_⟩
  rw [ho] at e
  simp only [Op.load.injEq] at e
  obtain ⟨rfl, rfl⟩ := e
  refine ⟨n, b, B, off, f, hn, hb, hb1, hy, rfl, hcell, ?_⟩
  have h1 := ld_cov h hx hr hy
  have h2 : isLptr (argOf nf fr (.tmp s)) = isLptr (rd fr s) := isLptr_cp _
  rw [h2] at h1
  exact h1

theorem evOp_sound (hQ : TabOk P E.Q) {C : Handler} (hC : CallOk P E C) (h : Rel Cx g w a.tmps fr m) (hK : Wf K m.h) {f rid : Nat} {tkOn : Bool} {pre : List Oper} {S : Nat → Prop} (hi : Ids P E tkOn S pre fr a.tmps w) {r : Out}
    (hS : ∀ t, (tkOn = true ∨ clsOf E o = 3) → Operand.tmp t ∈ o.op.operands.toList → S t)
    (hev : evOp E C K f rid tkOn pre o fr m = some r) : OpOk2 P E K o Cx g w a fr m r := by
  have hro : K.ro ≤ m.h.length := Nat.le_trans hK.ro hK.base
  unfold evOp at hev
  split at hev
  · rename_i x ho
    simp only [Option.some.injEq] at hev; subst hev
    intro next Qe hn
    unfold Oper.wp
    have : (execOp a.eval o).run P w = .ok (.value (a.eval x)) w := by simp [execOp, ho]
    rw [this]
    refine hn g w _ (h.post0 (evA h _ x) fun B => pm_arg _ x B _) (fun s e => ?_) fun ty s e => by rw [ho] at e; cases e
    rw [ho] at e
    simp only [Op.move.injEq] at e
    subst e; rfl
  · rename_i x ho
    simp only [Option.some.injEq] at hev; subst hev
    exact (ok_assign h hi (fun t e => hS t (.inr (by unfold clsOf; rw [ho])) (by simp [ho, Op.operands, e])) ho hQ).two (fun s e => by rw [ho] at e; cases e) fun ty s e => by rw [ho] at e; cases e
  · rename_i c x y ho
    simp only [Option.map_eq_some_iff] at hev
    obtain ⟨b, hb, rfl⟩ := hev
    exact (ok_pick h _ ho hb).two (fun s e => by rw [ho] at e; cases e) fun ty s e => by rw [ho] at e; cases e
  · rename_i t ho
    simp only [Option.bind_eq_some_iff] at hev
    obtain ⟨z, hz, hev⟩ := hev
    split at hev
    · rename_i hok
      simp only [Option.some.injEq] at hev; subst hev
      exact (ok_alloc hQ h hro _ _ f ho hz hok).two (fun s e => by rw [ho] at e; cases e) fun ty s e => by rw [ho] at e; cases e
    · cases hev
  · rename_i t x ho
    simp only [Option.bind_eq_some_iff] at hev
    obtain ⟨n, hn, hev⟩ := hev
    split at hev
    · rename_i hok
      simp only [Option.some.injEq] at hev; subst hev
      exact (ok_box hQ h hro hi f (fun t e => hS t (.inr (by unfold clsOf; rw [ho])) (by simp [ho, Op.operands, e])) ho hok.2).two (fun s e => by rw [ho] at e; cases e) fun ty s e => by rw [ho] at e; cases e
    · cases hev
  · rename_i t parts ho
    split at hev
    · rename_i htk
      simp only [Option.map_eq_some_iff] at hev
      obtain ⟨v, hv, rfl⟩ := hev
      exact (ok_build hQ h hi (fun t ht => hS t (.inl htk) (by simpa [ho, Op.operands] using ht)) ho hv).two (fun s e => by rw [ho] at e; cases e) fun ty s e => by rw [ho] at e; cases e
    · simp only [Option.map_eq_some_iff] at hev
      obtain ⟨v, hv, rfl⟩ := hev
      exact (ok_build0 hQ h _ ho hv).two (fun s e => by rw [ho] at e; cases e) fun ty s e => by rw [ho] at e; cases e
  · rename_i t n parts ho
    simp only [Option.map_eq_some_iff] at hev
    obtain ⟨q, hq, rfl⟩ := hev
    exact (ok_buildSlice hQ h hro _ ho hq).two (fun s e => by rw [ho] at e; cases e) fun ty s e => by rw [ho] at e; cases e
  · rename_i t x ho
    simp only [Option.bind_eq_some_iff, Option.map_eq_some_iff] at hev
    obtain ⟨n, hn, cs, hl, v, hv, rfl⟩ := hev
    exact ok_load2 hQ h _ ho hn hl hv
  · rename_i t x y ho
    simp only [Option.bind_eq_some_iff] at hev
    obtain ⟨n, hn, hev⟩ := hev
    split at hev
    · rename_i hlen
      simp only [Option.map_eq_some_iff] at hev
      obtain ⟨m', hm', rfl⟩ := hev
      exact (ok_store hQ h hi (fun t e => hS t (.inr (by unfold clsOf; rw [ho])) (by simp [ho, Op.operands, e])) ho hn hlen hm').two (fun s e => by rw [ho] at e; cases e) fun ty s e => by rw [ho] at e; cases e
    · cases hev
  · rename_i x ho
    refine OpOk.two ?_ (fun s e => by rw [ho] at e; cases e) fun ty s e => by rw [ho] at e; cases e
    split at hev
    · rename_i b j e
      simp only [Option.some.injEq] at hev; subst hev
      have := ok_nilCheck (P := P) (E := E) (K := K) h (E.nilF f) ho (.inl ⟨b, j, e⟩)
      rw [e] at this; exact this
    · rename_i b j e
      simp only [Option.some.injEq] at hev; subst hev
      have := ok_nilCheck (P := P) (E := E) (K := K) h (E.nilF f) ho (.inr (.inl ⟨b, j, e⟩))
      rw [e] at this; exact this
    · rename_i b i j v e
      simp only [Option.some.injEq] at hev; subst hev
      have := ok_nilCheck (P := P) (E := E) (K := K) h (E.nilF f) ho (.inr (.inr (.inr (.inr ⟨b, i, j, v, e⟩))))
      rw [e] at this; exact this
    · rename_i cs off e
      simp only [Option.some.injEq] at hev; subst hev
      have := ok_nilCheck (P := P) (E := E) (K := K) h (E.nilF f) ho (.inr (.inr (.inl ⟨cs, off, e⟩)))
      rw [e] at this; exact this
    · rename_i g' p q e
      simp only [Option.some.injEq] at hev; subst hev
      have := ok_nilCheck (P := P) (E := E) (K := K) h (E.nilF f) ho (.inr (.inr (.inr (.inl ⟨g', p, q, e⟩))))
      rw [e] at this; exact this
    · cases hev
  · rename_i op t x y z ho
    simp only [Option.map_eq_some_iff] at hev
    obtain ⟨v, hv, rfl⟩ := hev
    exact (ok_binOp hQ h _ ho hv).two (fun s e => by rw [ho] at e; cases e) fun ty s e => by rw [ho] at e; cases e
  · rename_i op t x ho
    simp only [Option.map_eq_some_iff] at hev
    obtain ⟨v, hv, rfl⟩ := hev
    exact (ok_unOp h _ ho hv).two (fun s e => by rw [ho] at e; cases e) fun ty s e => by rw [ho] at e; cases e
  · rename_i s d x ho
    simp only [Option.map_eq_some_iff] at hev
    obtain ⟨v, hv, rfl⟩ := hev
    exact (ok_convert hQ h _ ho hv).two (fun s e => by rw [ho] at e; cases e) fun ty s e => by rw [ho] at e; cases e
  · rename_i fn p q ho
    split at hev
    · split at hev
      · simp only [Option.some.injEq] at hev; subst hev
        exact (ok_makeFunc h _ ho).two (fun s e => by rw [ho] at e; cases e) fun ty s e => by rw [ho] at e; cases e
      · cases hev
    · cases hev
  · rename_i t ho
    split at hev
    · simp only [Option.some.injEq] at hev; subst hev
      exact (ok_makeMap h hro ho).two (fun s e => by rw [ho] at e; cases e) fun ty s e => by rw [ho] at e; cases e
    · cases hev
  · rename_i t l c ho
    simp only [Option.map_eq_some_iff] at hev
    obtain ⟨q, hq, rfl⟩ := hev
    exact (ok_makeSlice hQ h hro _ ho hq).two (fun s e => by rw [ho] at e; cases e) fun ty s e => by rw [ho] at e; cases e
  · rename_i t x lo hi' mx ho
    simp only [Option.map_eq_some_iff] at hev
    obtain ⟨v, hv, rfl⟩ := hev
    exact (ok_slice hQ h _ ho hv).two (fun s e => by rw [ho] at e; cases e) fun ty s e => by rw [ho] at e; cases e
  · rename_i t x i ho
    simp only [Option.bind_eq_some_iff] at hev
    obtain ⟨q, hq, n, hn, hev⟩ := hev
    split at hev
    · cases hev
    · rename_i h0
      simp only [Option.map_eq_some_iff] at hev
      obtain ⟨v, hv, rfl⟩ := hev
      exact (ok_fieldAddr hQ h _ ho hq hn h0 hv).two (fun s e => by rw [ho] at e; cases e) fun ty s e => by rw [ho] at e; cases e
  · rename_i t x i ho
    simp only [Option.bind_eq_some_iff, Option.map_eq_some_iff] at hev
    obtain ⟨q, hq, n, hn, xs, hx, cs, hc, v, hv, rfl⟩ := hev
    exact (ok_field hQ h _ ho hq hn hx hc hv).two (fun s e => by rw [ho] at e; cases e) fun ty s e => by rw [ho] at e; cases e
  · rename_i t x i ho
    simp only [Option.map_eq_some_iff] at hev
    obtain ⟨v, hv, rfl⟩ := hev
    exact (ok_indexAddr hQ h _ ho hv).two (fun s e => by rw [ho] at e; cases e) fun ty s e => by rw [ho] at e; cases e
  · rename_i t x i ho
    simp only [Option.map_eq_some_iff] at hev
    obtain ⟨v, hv, rfl⟩ := hev
    exact (ok_index hQ h _ ho hv).two (fun s e => by rw [ho] at e; cases e) fun ty s e => by rw [ho] at e; cases e
  · rename_i t c k ok ho
    simp only [Option.map_eq_some_iff] at hev
    obtain ⟨v, hv, rfl⟩ := hev
    exact (ok_lookup hQ h _ ho hv).two (fun s e => by rw [ho] at e; cases e) fun ty s e => by rw [ho] at e; cases e
  · rename_i t c k x ho
    split at hev
    · simp only [Option.map_eq_some_iff] at hev
      obtain ⟨h', hh, rfl⟩ := hev
      exact (ok_mapUpdate hQ h _ ho hh).two (fun s e => by rw [ho] at e; cases e) fun ty s e => by rw [ho] at e; cases e
    · cases hev
  · rename_i x i ho
    split at hev
    · rename_i t
      split at hev
      · rename_i vs hvs
        simp only [Option.map_eq_some_iff] at hev
        obtain ⟨v, hv, rfl⟩ := hev
        exact (ok_extract h hi ho (fun e => hS t (.inl e) (by simp [ho, Op.operands])) hvs hv).two (fun s e => by rw [ho] at e; cases e) fun ty s e => by rw [ho] at e; cases e
      · cases hev
    · cases hev
  · rename_i c ho
    refine (evCall_sound hQ hC h hK hi ho (fun t ht hm => hS t ht ?_) (fun g0 gf x y hc hx hw => ?_) hev).two (fun s e => by rw [ho] at e; cases e) fun ty s e => by rw [ho] at e; cases e
    · simp only [ho, Op.operands, Call.operands, Array.toList_append]
      simp [hm]
    · unfold writesMem at hw
      rw [ho] at hw
      simp only [hc] at hw
      cases g0 with
      | func gf' =>
        simp only [argOf, V.clo.injEq, Fn.func.injEq] at hx
        rw [hx.1] at hw
        simpa using hw
      | _ => simp at hw
  · cases hev

end
end Go.Wn

namespace Go.Wn
open Go

theorem lfL_of_ok {cs : List V} (h : cs.all V.cellOk = true) : lfL cs = true := by
  rw [lfL_all]
  rw [List.all_eq_true] at *
  exact fun x hx => cellOk_lf (h x hx)

structure PInv (E : Env) (K : Ctx) (o : Oper) (m : Mem) (m' : Mem) : Prop where
  inv : HInv K m.h m'.h
  shp : writesMem E o = false → ∀ b, b < m.h.length → shp m'.h b = shp m.h b

theorem PInv.same {E : Env} {K : Ctx} {o : Oper} {m m' : Mem} (h : m'.h = m.h) : PInv E K o m m' := ⟨by rw [h]; exact .refl _ _, fun _ b _ => by rw [h]⟩

theorem PInv.snoc {E : Env} {K : Ctx} {o : Oper} {m m1 m' : Mem} {x : Blk} (h : PInv E K o m m1) (hK : K.ro ≤ m1.h.length) (he : m'.h = m1.h ++ [x]) (hx : blkLf x = true) : PInv E K o m m' :=
  ⟨h.inv.trans (by rw [he]; exact .snoc hK hx), fun hw b hb => by
    rw [he, shp_snoc (Nat.lt_of_lt_of_le hb h.inv.len)]; exact h.shp hw b hb⟩

theorem unown_shp (m : Mem) (a : V) (n : Nat) (b : Nat) : shp (unown m a n).h b = shp m.h b := by
  unfold unown
  split
  · split <;> rfl
  · split
    · rename_i hb
      show Wn.shp (m.h.set _ _) b = _
      rw [shp_set_var hb]
    · rfl
  · split
    · rename_i hb
      split
      · rename_i hr
        show Wn.shp (m.h.set _ _) b = _
        rw [shp_set_arr hb (by simp)]
      · rfl
    · rfl
  · rfl

theorem takeS_shp {E : Env} {K : Ctx} {nf sq : Bool} {pre : List Oper} {fr : Fr} {m : Mem} (x : Operand) (b : Nat) : shp (takeS E nf sq K.ro pre fr m x).2.1.h b = shp m.h b := by
  cases x with
  | tmp t =>
    simp only [takeS]
    split
    · rfl
    · split
      · split <;> rfl
      · split
        · split
          · rfl
          · split
            · rfl
            · split
              · split
                · exact unown_shp _ _ _ _
                · rfl
              · rfl
        · rfl
  | _ => rfl

theorem argsOf_shp {E : Env} {K : Ctx} {nf sq : Bool} {pre : List Oper} {tk : List Nat} (b : Nat) : ∀ (xs : List Operand) (k : Nat) (fr : Fr) (m : Mem), shp (argsOf E nf sq K.ro pre tk fr m xs k).2.1.h b = shp m.h b
  | [], _, _, _ => rfl
  | x :: xs, k, fr, m => by
    simp only [argsOf]
    split
    · exact (argsOf_shp b xs (k + 1) _ _).trans (takeS_shp x b)
    · exact argsOf_shp b xs (k + 1) _ _

theorem takesOf_shp {E : Env} {K : Ctx} {nf sq : Bool} {pre : List Oper} (b : Nat) : ∀ (xs : List Operand) (fr : Fr) (m : Mem), shp (takesOf E nf sq K.ro pre fr m xs).2.1.h b = shp m.h b
  | [], _, _ => rfl
  | x :: xs, fr, m => by
    simp only [takesOf]
    exact (takesOf_shp b xs _ _).trans (takeS_shp x b)

theorem PInv.take {E : Env} {K : Ctx} {o : Oper} {m : Mem} {nf sq : Bool} {pre : List Oper} {fr : Fr} (x : Operand) : PInv E K o m (takeS E nf sq K.ro pre fr m x).2.1 :=
  ⟨takeS_inv x, fun _ b _ => takeS_shp x b⟩

theorem newVarV_inv {E : Env} {K : Ctx} {o : Oper} {m m1 : Mem} {f : Nat} {hp : Bool} {cs : List V} (h : PInv E K o m m1) (hK : K.ro ≤ m1.h.length) (hok : cs.all V.cellOk = true) : PInv E K o m (newVarV E f hp o m1 cs).2 := by
  unfold newVarV
  split
  · exact h.snoc hK rfl (lfL_of_ok hok)
  · exact ⟨h.inv, h.shp⟩

theorem rbL_of {K : Ctx} {b : Nat} {vs : List V} (h : mayPut K b vs = true) : lfL vs = true ∧ K.ro ≤ b ∧ (∀ k, k ≤ K.base → b < k → rbL k vs = true) := by
  simp only [mayPut, Bool.and_eq_true, decide_eq_true_eq, Bool.or_eq_true] at h
  exact ⟨lfL_of_ok h.2, h.1.1, fun k hk hb => rbL_mono (Nat.zero_le _) vs (h.1.2.resolve_left (by omega))⟩

theorem stv_inv {K : Ctx} {m m' : Mem} {a : V} {vs : List V} (h : stv K m a vs = some m') : HInv K m.h m'.h := by
  unfold stv at h
  split at h
  · split at h
    · split at h
      · simp only [Option.some.injEq] at h; subst h; exact .refl _ _
      · cases h
    · cases h
  · rename_i b j
    split at h
    · rename_i cs hb
      split at h
      · rename_i hc
        simp only [Bool.and_eq_true] at hc
        simp only [Option.some.injEq] at h; subst h
        obtain ⟨h1, h2, h3⟩ := rbL_of hc.2
        refine .set h2 (fun w => ?_) fun kk hkk w hbb => ?_
        · have := w _ (List.mem_of_getElem? hb)
          simp only [blkLf, lfL_all] at this h1 ⊢
          exact all_set_cells this h1
        · have := w _ hb
          have h4 := h3 kk hkk hbb
          simp only [blkRb, rbL_all] at this h4 ⊢
          exact all_set_cells this h4
      · cases h
    · cases h
  · rename_i b i j ver
    split at h
    · rename_i sz rs hb
      split at h
      · rename_i hc
        simp only [Bool.and_eq_true] at hc
        split at h
        · rename_i cs hr
          split at h
          · simp only [Option.some.injEq] at h; subst h
            obtain ⟨h1, h2, h3⟩ := rbL_of hc.2
            refine .set h2 (fun w => ?_) fun kk hkk w hbb => ?_
            · have := w _ (List.mem_of_getElem? hb)
              simp only [blkLf, List.all_eq_true] at this ⊢
              intro x hx
              rcases List.mem_or_eq_of_mem_set hx with hx | hx
              · exact this x hx
              · subst hx
                have h5 := this cs (List.mem_of_getElem? hr)
                rw [lfL_all] at h5 h1 ⊢
                exact all_set_cells h5 h1
            · have := w _ hb
              have h4 := h3 kk hkk hbb
              simp only [blkRb, List.all_eq_true] at this ⊢
              intro x hx
              rcases List.mem_or_eq_of_mem_set hx with hx | hx
              · exact this x hx
              · subst hx
                have h5 := this cs (List.mem_of_getElem? hr)
                rw [rbL_all] at h5 h4 ⊢
                exact all_set_cells h5 h4
          · cases h
        · cases h
      · cases h
    · cases h
  · cases h

theorem lfL_pure (l : List PV) : lfL (l.map V.p) = true := by
  induction l with
  | nil => rfl
  | cons x xs ih => simp [lfL, lf, ih]

theorem newArr_inv {E : Env} {K : Ctx} {o : Oper} {m m1 : Mem} {sz : Nat} {rs : List (List V)} {lm : List (List V)} (h : PInv E K o m m1) (hK : K.ro ≤ m1.h.length) (hok : rs.all lfL = true) : PInv E K o m ⟨lm, (newArr m1.h sz rs).2⟩ :=
  h.snoc hK (x := .arr sz rs) rfl hok

theorem rowOk_lf {sz : Nat} {rs : List (List V)} (h : rs.all (rowOk sz) = true) : rs.all lfL = true := by
  rw [List.all_eq_true] at *
  intro x hx
  have := h x hx
  simp only [rowOk, Bool.and_eq_true] at this
  exact lfL_of_ok this.2

theorem appendV_inv {Q : Tab} {E : Env} {K : Ctx} {o : Oper} {m m1 : Mem} {farr : Bool} {t : TypeId} {s x : V} {r : V × Heap} {lm : List (List V)} (hw : writesMem E o = true) (h : PInv E K o m m1) (hK : K.ro ≤ m1.h.length) (e : appendV Q K m1.h farr t s x = some r) : PInv E K o m ⟨lm, r.2⟩ := by
  have same : PInv E K o m ⟨lm, m1.h⟩ := ⟨h.inv, h.shp⟩
  unfold appendV at e
  split at e
  · rename_i et _
    simp only [Option.bind_eq_some_iff] at e
    obtain ⟨sz, _, by_, _, z, _, e⟩ := e
    split at e
    · cases e
    · split at e
      · split at e
        · split at e
          · simp only [Option.some.injEq] at e; subst e; exact same
          · cases e
        · split at e
          · simp only [Option.bind_eq_some_iff] at e
            obtain ⟨rs, hrs, e⟩ := e
            split at e
            · rename_i hc
              simp only [Bool.and_eq_true] at hc
              simp only [Option.some.injEq] at e; subst e
              exact newArr_inv h hK (rowOk_lf hc.1.2)
            · cases e
          · cases e
      · split at e
        · split at e
          · split at e
            · simp only [Option.some.injEq] at e; subst e; exact same
            · simp only [Option.some.injEq] at e; subst e; exact same
          · cases e
        · simp only [Option.bind_eq_some_iff] at e
          obtain ⟨rs, hrs, e⟩ := e
          split at e
          · rename_i hc
            simp only [Bool.and_eq_true] at hc
            simp only [Option.some.injEq] at e; subst e
            exact newArr_inv h hK (rowOk_lf hc.1.2)
          · cases e
      · rename_i b off len ver
        simp only [Option.bind_eq_some_iff] at e
        obtain ⟨rs, hrs, e⟩ := e
        split at e
        · rename_i s0 r0 hb
          split at e
          · rename_i hc
            simp only [Bool.and_eq_true, decide_eq_true_eq] at hc
            simp only [Option.some.injEq] at e; subst e
            obtain ⟨h1, h2, h3⟩ := rbL_of hc.2
            have hfl : ∀ {p : V → Bool}, rs.flatten.all p = true → ∀ r ∈ rs, r.all p = true := fun {p} hp r hr => by
              rw [List.all_eq_true] at *
              exact fun x hx => hp x (List.mem_flatten.2 ⟨r, hr, hx⟩)
            have key : ∀ (q : List V → Bool), (∀ r ∈ r0, q r = true) → (∀ r ∈ rs, q r = true) → (r0.take len ++ rs ++ r0.drop (len + rs.length)).all q = true := fun q q1 q2 => by
              rw [List.all_eq_true]
              intro x hx
              rcases List.mem_append.1 hx with hx | hx
              · rcases List.mem_append.1 hx with hx | hx
                · exact q1 x (List.mem_of_mem_take hx)
                · exact q2 x hx
              · exact q1 x (List.mem_of_mem_drop hx)
            refine ⟨h.inv.trans (.set h2 (fun w => ?_) fun kk hkk w hbb => ?_), fun hw' => by rw [hw] at hw'; cases hw'⟩
            · have := w _ (List.mem_of_getElem? hb)
              simp only [blkLf, List.all_eq_true] at this
              refine key lfL this fun r hr => ?_
              rw [lfL_all] at h1 ⊢
              exact hfl h1 r hr
            · have := w _ hb
              simp only [blkRb, List.all_eq_true] at this
              refine key (rbL kk) this fun r hr => ?_
              have h4 := h3 kk hkk hbb
              rw [rbL_all] at h4 ⊢
              exact hfl h4 r hr
          · cases e
        · cases e
      · cases e
  · cases e

theorem listOf_inv {Q : Tab} {E : Env} {K : Ctx} {o : Oper} {m : Mem} {t : TypeId} {n : Nat} {ps : List (Nat × V)} {r : V × Heap} (hK : K.ro ≤ m.h.length) (e : listOf Q m.h t n ps = some r) : PInv E K o m ⟨m.lm, r.2⟩ := by
  unfold listOf at e
  split at e
  · simp only [Option.bind_eq_some_iff] at e
    obtain ⟨sz, _, z, _, e⟩ := e
    split at e
    · split at e
      · split at e
        · simp only [Option.some.injEq] at e; subst e; exact .same rfl
        · cases e
      · split at e
        · rename_i hc
          simp only [Option.some.injEq] at e; subst e
          refine newArr_inv (m1 := m) (.same rfl) hK ?_
          rw [List.all_eq_true] at *
          intro x hx
          simp only [List.mem_map] at hx
          obtain ⟨p, hp, rfl⟩ := hx
          have := hc p.2 (List.mem_map_of_mem hp)
          simp only [rowOk, Bool.and_eq_true] at this
          exact lfL_of_ok this.2
        · cases e
    · cases e
  · cases e

theorem makeArr_inv {Q : Tab} {E : Env} {K : Ctx} {o : Oper} {m : Mem} {nf : Bool} {t : TypeId} {l c : V} {r : V × Heap} (hK : K.ro ≤ m.h.length) (e : makeArr Q nf m.h t l c = some r) : PInv E K o m ⟨m.lm, r.2⟩ := by
  unfold makeArr at e
  split at e
  · simp only [Option.bind_eq_some_iff] at e
    obtain ⟨sz, _, by_, _, z, _, n, _, k, _, e⟩ := e
    split at e
    · rename_i hc
      simp only [Option.some.injEq] at e; subst e
      refine newArr_inv (m1 := m) (.same rfl) hK ?_
      rw [List.all_eq_true]
      intro x hx
      rw [(List.mem_replicate.1 hx).2]
      exact lfL_of_ok hc.2.2.2.2.2
    · cases e
  · cases e

theorem mapPut_inv {Q : Tab} {K : Ctx} {h : Heap} {t : TypeId} {c k v : V} {h' : Heap} (hl : lf v = true) (e : mapPut Q K h t c k v = some h') : HInv K h h' := by
  unfold mapPut at e
  split at e
  · rename_i b _
    split at e
    · rename_i ks vs hb
      simp only [Option.bind_eq_some_iff] at e
      obtain ⟨k', _, q, _, e⟩ := e
      split at e
      · rename_i hc
        simp only [Bool.and_eq_true, decide_eq_true_eq, Bool.or_eq_true] at hc
        have hl' : lf (cp v) = true := lf_cp v hl
        have hr' : ∀ k, k ≤ K.base → b < k → rb k (cp v) = true := fun k hk hbb => rb_cp _ v (rb_mono (Nat.zero_le _) v (hc.2.resolve_left (by omega)))
        split at e
        · rename_i i
          split at e
          · simp only [Option.some.injEq] at e; subst e
            refine .set hc.1 (fun w => ?_) fun kk hkk w hbb => ?_
            · have := w _ (List.mem_of_getElem? hb)
              simp only [blkLf, lfL_all, List.all_eq_true] at this ⊢
              intro x hx
              rcases List.mem_or_eq_of_mem_set hx with hx | hx
              · exact this x hx
              · subst hx; exact hl'
            · have := w _ hb
              simp only [blkRb, rbL_all, List.all_eq_true] at this ⊢
              intro x hx
              rcases List.mem_or_eq_of_mem_set hx with hx | hx
              · exact this x hx
              · subst hx; exact hr' kk hkk hbb
          · cases e
        · simp only [Option.some.injEq] at e; subst e
          refine .set hc.1 (fun w => ?_) fun kk hkk w hbb => ?_
          · have := w _ (List.mem_of_getElem? hb)
            simp only [blkLf] at this ⊢
            rw [lfL_append, this]
            simp [lfL, hl']
          · have := w _ hb
            simp only [blkRb] at this ⊢
            rw [rbL_append, this]
            simp [rbL, hr' kk hkk hbb]
      · cases e
    · cases e
  · cases e

theorem mapDel_inv {Q : Tab} {K : Ctx} {h : Heap} {t : TypeId} {c k : V} {h' : Heap} (e : mapDel Q K h t c k = some h') : HInv K h h' := by
  unfold mapDel at e
  split at e
  · split at e
    · rename_i ks vs hb
      simp only [Option.bind_eq_some_iff] at e
      obtain ⟨k', _, q, _, e⟩ := e
      split at e
      · rename_i hc
        split at e
        · simp only [Option.some.injEq] at e; subst e
          refine .set hc (fun w => ?_) fun kk hkk w hbb => ?_
          · have := w _ (List.mem_of_getElem? hb)
            simp only [blkLf, lfL_all, List.all_eq_true] at this ⊢
            exact fun x hx => this x (List.mem_of_mem_eraseIdx hx)
          · have := w _ hb
            simp only [blkRb, rbL_all, List.all_eq_true] at this ⊢
            exact fun x hx => this x (List.mem_of_mem_eraseIdx hx)
        · simp only [Option.some.injEq] at e; subst e; exact .refl _ _
      · cases e
    · cases e
  · cases e

/-- how a call leaves the heap, plainly -/
def CallPure (E : Env) (C : Handler) : Prop := ∀ (K : Ctx) (f : FuncId) (as : List V) (h : Heap) (v : V) (h' : Heap), C K f as h = some (v, h') → K.ro ≤ h.length → lfL as = true → CallInv E K f h v h'

theorem evOp_inv {E : Env} {C : Handler} (hC : CallPure E C) {K : Ctx} {f rid : Nat} {tkOn : Bool} {pre : List Oper} {o : Oper} {fr : Fr} {m : Mem} {r : Out} (hro : K.ro ≤ m.h.length)
    (hev : evOp E C K f rid tkOn pre o fr m = some r) : PInv E K o m r.m := by
  unfold evOp at hev
  split at hev
  · simp only [Option.some.injEq] at hev; subst hev; exact .same rfl
  · simp only [Option.some.injEq] at hev; subst hev; exact .take _
  · simp only [Option.map_eq_some_iff] at hev
    obtain ⟨b, hb, rfl⟩ := hev; exact .same rfl
  · simp only [Option.bind_eq_some_iff] at hev
    obtain ⟨z, hz, hev⟩ := hev
    split at hev
    · rename_i hok
      simp only [Option.some.injEq] at hev; subst hev
      exact newVarV_inv (m1 := m) (.same rfl) hro hok
    · cases hev
  · simp only [Option.bind_eq_some_iff] at hev
    obtain ⟨n, hn, hev⟩ := hev
    split at hev
    · rename_i hok
      simp only [Option.some.injEq] at hev; subst hev
      exact newVarV_inv (.take _) (Nat.le_trans hro (takeS_inv _).len) hok.2
    · cases hev
  · split at hev
    · simp only [Option.map_eq_some_iff] at hev
      obtain ⟨v, hv, rfl⟩ := hev
      exact ⟨takesOf_inv _ _ _, fun _ b _ => takesOf_shp b _ _ _⟩
    · simp only [Option.map_eq_some_iff] at hev
      obtain ⟨v, hv, rfl⟩ := hev; exact .same rfl
  · simp only [Option.map_eq_some_iff] at hev
    obtain ⟨q, hq, rfl⟩ := hev
    exact listOf_inv hro hq
  · simp only [Option.bind_eq_some_iff, Option.map_eq_some_iff] at hev
    obtain ⟨n, hn, cs, hl, v, hv, rfl⟩ := hev; exact .same rfl
  · rename_i ho
    simp only [Option.bind_eq_some_iff] at hev
    obtain ⟨n, hn, hev⟩ := hev
    split at hev
    · simp only [Option.map_eq_some_iff] at hev
      obtain ⟨m', hm', rfl⟩ := hev
      exact ⟨(takeS_inv _).trans (stv_inv hm'), fun hw => by simp [writesMem, ho] at hw⟩
    · cases hev
  · split at hev <;> first
      | (simp only [Option.some.injEq] at hev; subst hev; exact .same rfl)
      | cases hev
  · simp only [Option.map_eq_some_iff] at hev
    obtain ⟨v, hv, rfl⟩ := hev; exact .same rfl
  · simp only [Option.map_eq_some_iff] at hev
    obtain ⟨v, hv, rfl⟩ := hev; exact .same rfl
  · simp only [Option.map_eq_some_iff] at hev
    obtain ⟨v, hv, rfl⟩ := hev; exact .same rfl
  · split at hev
    · split at hev
      · simp only [Option.some.injEq] at hev; subst hev; exact .same rfl
      · cases hev
    · cases hev
  · split at hev
    · simp only [Option.some.injEq] at hev; subst hev
      exact PInv.snoc (m1 := m) (.same rfl) hro (x := .map [] []) rfl rfl
    · cases hev
  · simp only [Option.map_eq_some_iff] at hev
    obtain ⟨q, hq, rfl⟩ := hev
    exact makeArr_inv hro hq
  · simp only [Option.map_eq_some_iff] at hev
    obtain ⟨v, hv, rfl⟩ := hev; exact .same rfl
  · simp only [Option.bind_eq_some_iff] at hev
    obtain ⟨q, hq, n, hn, hev⟩ := hev
    split at hev
    · cases hev
    · simp only [Option.map_eq_some_iff] at hev
      obtain ⟨v, hv, rfl⟩ := hev; exact .same rfl
  · simp only [Option.bind_eq_some_iff, Option.map_eq_some_iff] at hev
    obtain ⟨q, hq, n, hn, xs, hx, cs, hc, v, hv, rfl⟩ := hev; exact .same rfl
  · simp only [Option.map_eq_some_iff] at hev
    obtain ⟨v, hv, rfl⟩ := hev; exact .same rfl
  · simp only [Option.map_eq_some_iff] at hev
    obtain ⟨v, hv, rfl⟩ := hev; exact .same rfl
  · simp only [Option.map_eq_some_iff] at hev
    obtain ⟨v, hv, rfl⟩ := hev; exact .same rfl
  · rename_i ho
    split at hev
    · rename_i hl
      simp only [Option.map_eq_some_iff] at hev
      obtain ⟨h', hh, rfl⟩ := hev
      exact ⟨mapPut_inv hl hh, fun hw => by simp [writesMem, ho] at hw⟩
    · cases hev
  · split at hev
    · split at hev
      · simp only [Option.map_eq_some_iff] at hev
        obtain ⟨v, hv, rfl⟩ := hev
        split <;> exact .same rfl
      · cases hev
    · cases hev
  · rename_i c ho
    unfold evCall at hev
    split at hev
    · rename_i g0 hc
      split at hev
      · rename_i gf x y hx
        generalize (if (tkOn || decide (E.md gf < 2)) = true then E.tk gf else []) = tkl at hev
        dsimp only at hev
        split at hev
        · rename_i hcnd
          simp only [Bool.and_eq_true] at hcnd
          simp only [Option.map_eq_some_iff] at hev
          obtain ⟨q, hq, rfl⟩ := hev
          have hinv := argsOf_inv (E := E) (K := K) (nf := E.nilF f) (sq := tkOn) (pre := pre) (tk := tkl) c.args.toList 0 fr m
          have hci := hC _ _ _ _ _ _ hq (Nat.le_trans hro hinv.len) hcnd.2
          refine ⟨hinv.trans hci.inv, fun hw b hb => ?_⟩
          have hmd : 2 ≤ E.md gf := by
            unfold writesMem at hw
            rw [ho] at hw
            simp only [hc] at hw
            cases g0 with
            | func gf' =>
              simp only [argOf, V.clo.injEq, Fn.func.injEq] at hx
              rw [hx.1] at hw
              simpa using hw
            | _ => simp at hw
          show Wn.shp q.2 b = _
          rw [hci.quiet hmd]
          exact argsOf_shp b _ _ _ _
        · cases hev
      · cases hev
    · cases hev
    · rename_i b hc
      unfold evBuiltin at hev
      split at hev
      · split at hev
        · rename_i s x t tx ha ht
          split at hev
          · cases hev
          · simp only [Option.map_eq_some_iff] at hev
            obtain ⟨q, hq, rfl⟩ := hev
            exact appendV_inv (by simp [writesMem, ho, hc]) (.take s) (Nat.le_trans hro (takeS_inv _).len) hq
        · cases hev
      · split at hev
        · simp only [Option.map_eq_some_iff] at hev
          obtain ⟨q, hq, rfl⟩ := hev; exact .same rfl
        · cases hev
      · split at hev
        · split at hev
          · split at hev
            · simp only [Option.some.injEq] at hev; subst hev; exact .same rfl
            · cases hev
          · cases hev
        · cases hev
      · split at hev
        · simp only [Option.map_eq_some_iff] at hev
          obtain ⟨q, hq, rfl⟩ := hev
          exact ⟨mapDel_inv hq, fun hw => by simp [writesMem, ho, hc] at hw⟩
        · cases hev
      · cases hev
  · cases hev

end Go.Wn

namespace Go.Wn
open Go

def Agr (S : Nat → Prop) (fr fr' : Fr) : Prop := ∀ t, S t → rd fr' t = rd fr t
def Off (S : Nat → Prop) (fr fr1 : Fr) : Prop := ∀ t, ¬ S t → rd fr1 t = rd fr t

theorem Off.refl (S : Nat → Prop) (fr : Fr) : Off S fr fr := fun _ _ => rfl
theorem Off.trans {S : Nat → Prop} {a b c : Fr} (h : Off S a b) (k : Off S b c) : Off S a c := fun t ht => (k t ht).trans (h t ht)
theorem Agr.set {S : Nat → Prop} {fr fr' : Fr} (h : Agr S fr fr') (t : Nat) (v : V) : Agr S (setF fr t v) (setF fr' t v) := fun u hu => by
  rw [rd_setF, rd_setF]
  split
  · rfl
  · exact h u hu
theorem Off.set {S : Nat → Prop} (fr : Fr) {t : Nat} (ht : S t) (v : V) : Off S fr (setF fr t v) := fun u hu => by
  rw [rd_setF]
  split
  · rename_i e; subst e; exact absurd ht hu
  · rfl

/-- slots that a take of x may look at -/
def slotsX (pre : List Oper) (x : Operand) : List Nat := tmpsOf [x] ++ extraOf pre x
def slotsOf (pre : List Oper) (o : Oper) : List Nat := o.op.operands.toList.flatMap (slotsX pre)

theorem copyOf_def {pre : List Oper} {fr : Fr} {t s : Nat} (h : copyOf pre fr t = some s) :
    defOf pre t = some (.move (.tmp s)) ∧ isNov (rd fr t) = false ∧ (behindDef pre t).all (fun o => o.dst != some s && o.dst != some t) = true := by
  unfold copyOf at h
  split at h
  · split at h
    · rename_i hd hc
      simp only [Option.some.injEq] at h
      subst h
      simp only [Bool.and_eq_true, Bool.not_eq_true'] at hc
      exact ⟨hd, hc.1, hc.2⟩
    · cases h
  · cases h

theorem loadOf_def {E : Env} {sq : Bool} {pre : List Oper} {fr : Fr} {t ty a : Nat} (h : loadOf E sq pre fr t = some (ty, a)) :
    defOf pre t = some (.load ty (.tmp a)) ∧ isNov (rd fr t) = false ∧ a ≠ t ∧ (behindDef pre t).all (fun o => o.dst != some a && o.dst != some t) = true ∧
      (if isLptr (rd fr a) then (if sq then behindDef pre t else pre).all (fun o => !isStore o) else (if sq then behindDef pre t else pre).all (fun o => !writesMem E o)) = true := by
  unfold loadOf at h
  split at h
  · rename_i ty' a' hd
    generalize hg : (if isLptr (rd fr a') = true then _ else _) = q at h
    split at h
    · rename_i hc
      simp only [Option.some.injEq, Prod.mk.injEq] at h
      obtain ⟨rfl, rfl⟩ := h
      rw [Bool.and_eq_true, Bool.and_eq_true, Bool.and_eq_true] at hc
      obtain ⟨⟨⟨h1, h2⟩, h3⟩, h4⟩ := hc
      exact ⟨hd, by simpa using h1, by simpa using h2, h3, hg.trans h4⟩
    · cases h
  · cases h

theorem copyOf_extra {pre : List Oper} {fr : Fr} {t s : Nat} (h : copyOf pre fr t = some s) : s ∈ extraOf pre (.tmp t) := by
  simp [extraOf, (copyOf_def h).1]
theorem loadOf_extra {E : Env} {sq : Bool} {pre : List Oper} {fr : Fr} {t ty a : Nat} (h : loadOf E sq pre fr t = some (ty, a)) : a ∈ extraOf pre (.tmp t) := by
  simp [extraOf, (loadOf_def h).1]

theorem takeS_congr {E : Env} {nf sq : Bool} {ro : Nat} {pre : List Oper} {fr fr' : Fr} {m : Mem} {x : Operand} {S : Nat → Prop} (hS : ∀ t ∈ slotsX pre x, S t) (ha : Agr S fr fr') :
    (takeS E nf sq ro pre fr' m x).1 = (takeS E nf sq ro pre fr m x).1 ∧ (takeS E nf sq ro pre fr' m x).2.1 = (takeS E nf sq ro pre fr m x).2.1 ∧
      Agr S (takeS E nf sq ro pre fr m x).2.2 (takeS E nf sq ro pre fr' m x).2.2 ∧ Off S fr (takeS E nf sq ro pre fr m x).2.2 ∧ Off S fr' (takeS E nf sq ro pre fr' m x).2.2 := by
  cases x with
  | tmp t =>
    have hSt : S t := hS t (by simp [slotsX, tmpsOf])
    have ht : rd fr' t = rd fr t := ha t hSt
    have hcp : copyOf pre fr' t = copyOf pre fr t := by unfold copyOf; rw [ht]
    have hld : loadOf E sq pre fr' t = loadOf E sq pre fr t := by
      unfold loadOf; rw [ht]
      split
      · rename_i ty a hd
        have : rd fr' a = rd fr a := ha a (hS a (by simp [slotsX, extraOf, hd]))
        rw [this]
      · rfl
    simp only [takeS, ht, hcp, hld]
    by_cases ho : hasOwn (rd fr t) = true
    · simp only [ho, if_true]
      exact ⟨trivial, trivial, ha.set _ _, .set _ hSt _, .set _ hSt _⟩
    · simp only [ho, Bool.false_eq_true, if_false]
      cases hc : copyOf pre fr t with
      | some s =>
        have hSs : S s := hS s (by simp [slotsX, copyOf_extra hc])
        have hs : rd fr' s = rd fr s := ha s hSs
        simp only [hs]
        by_cases hos : hasOwn (rd fr s) = true
        · simp only [hos, if_true]
          exact ⟨trivial, trivial, ha.set _ _, .set _ hSs _, .set _ hSs _⟩
        · simp only [hos, Bool.false_eq_true, if_false]
          exact ⟨trivial, trivial, ha, .refl _ _, .refl _ _⟩
      | none =>
        cases hl : loadOf E sq pre fr t with
        | none => exact ⟨rfl, rfl, ha, .refl _ _, .refl _ _⟩
        | some p =>
          obtain ⟨ty, a⟩ := p
          have haa : rd fr' a = rd fr a := ha a (hS a (by simp [slotsX, loadOf_extra hl]))
          simp only [haa]
          cases E.Q.sz ty with
          | none => exact ⟨rfl, rfl, ha, .refl _ _, .refl _ _⟩
          | some n =>
            simp only
            cases ld m (cp (rd fr a)) n with
            | none => exact ⟨rfl, rfl, ha, .refl _ _, .refl _ _⟩
            | some cs =>
              simp only
              by_cases hoc : (hasOwnL cs && ownsAt ro (cp (rd fr a))) = true
              · simp only [hoc, if_true]
                cases ofCells E.Q ty cs <;> exact ⟨rfl, rfl, ha, .refl _ _, .refl _ _⟩
              · simp only [hoc, Bool.false_eq_true, if_false]
                exact ⟨trivial, trivial, ha, .refl _ _, .refl _ _⟩
  | const v => exact ⟨rfl, rfl, ha, .refl _ _, .refl _ _⟩
  | global k => exact ⟨rfl, rfl, ha, .refl _ _, .refl _ _⟩
  | func k => exact ⟨rfl, rfl, ha, .refl _ _, .refl _ _⟩

theorem argOf_congr {nf : Bool} {fr fr' : Fr} {x : Operand} (h : ∀ t, x = .tmp t → cp (rd fr' t) = cp (rd fr t)) : argOf nf fr' x = argOf nf fr x := by
  cases x with
  | tmp t => exact h t rfl
  | _ => rfl

theorem argOf_agr {nf : Bool} {fr fr' : Fr} {pre : List Oper} {x : Operand} {S : Nat → Prop} (hS : ∀ t ∈ slotsX pre x, S t) (ha : Agr S fr fr') : argOf nf fr' x = argOf nf fr x :=
  argOf_congr fun t e => by subst e; rw [ha t (hS t (by simp [slotsX, tmpsOf]))]

theorem argsOf_congr {E : Env} {nf sq : Bool} {ro : Nat} {pre : List Oper} {tk : List Nat} {S : Nat → Prop} : ∀ (xs : List Operand) (k : Nat) (fr fr' : Fr) (m : Mem), (∀ x ∈ xs, ∀ t ∈ slotsX pre x, S t) → Agr S fr fr' →
    (argsOf E nf sq ro pre tk fr' m xs k).1 = (argsOf E nf sq ro pre tk fr m xs k).1 ∧ (argsOf E nf sq ro pre tk fr' m xs k).2.1 = (argsOf E nf sq ro pre tk fr m xs k).2.1 ∧
      Agr S (argsOf E nf sq ro pre tk fr m xs k).2.2 (argsOf E nf sq ro pre tk fr' m xs k).2.2 ∧ Off S fr (argsOf E nf sq ro pre tk fr m xs k).2.2 ∧ Off S fr' (argsOf E nf sq ro pre tk fr' m xs k).2.2
  | [], k, fr, fr', m, _, ha => ⟨rfl, rfl, ha, .refl _ _, .refl _ _⟩
  | x :: xs, k, fr, fr', m, hS, ha => by
    simp only [argsOf]
    split
    · obtain ⟨c1, c2, c3, c4, c5⟩ := takeS_congr (E := E) (nf := nf) (sq := sq) (ro := ro) (m := m) (hS x (by simp)) ha
      obtain ⟨d1, d2, d3, d4, d5⟩ := argsOf_congr (E := E) (nf := nf) (sq := sq) (ro := ro) (tk := tk) xs (k + 1) _ _ (takeS E nf sq ro pre fr m x).2.1 (fun y hy => hS y (by simp [hy])) c3
      simp only [c2]
      exact ⟨by rw [c1, d1], d2, d3, c4.trans d4, c5.trans d5⟩
    · obtain ⟨d1, d2, d3, d4, d5⟩ := argsOf_congr (E := E) (nf := nf) (sq := sq) (ro := ro) (tk := tk) xs (k + 1) fr fr' m (fun y hy => hS y (by simp [hy])) ha
      exact ⟨by rw [d1, argOf_agr (hS x (by simp)) ha], d2, d3, d4, d5⟩

theorem argsOf_nil {E : Env} {nf sq : Bool} {ro : Nat} {pre : List Oper} {fr : Fr} {m : Mem} : ∀ (xs : List Operand) (k : Nat), argsOf E nf sq ro pre [] fr m xs k = (xs.map (argOf nf fr), m, fr)
  | [], _ => rfl
  | x :: xs, k => by simp [argsOf, argsOf_nil xs (k + 1)]

theorem slotsX_of {pre : List Oper} {o : Oper} {x : Operand} {S : Nat → Prop} (hS : ∀ t ∈ slotsOf pre o, S t) (hx : x ∈ o.op.operands.toList) : ∀ t ∈ slotsX pre x, S t :=
  fun t ht => hS t (List.mem_flatMap.2 ⟨x, hx, ht⟩)

/-- an operation that may change memory, in two frames that agree on what it looks at -/
theorem evOp_congr {E : Env} {C : Handler} {K : Ctx} {f rid : Nat} {pre : List Oper} {o : Oper} {fr fr' : Fr} {m : Mem} {r : Out} (hc : clsOf E o = 3) {S : Nat → Prop} (hS : ∀ t ∈ slotsOf pre o, S t) (ha : Agr S fr fr')
    (hev : evOp E C K f rid false pre o fr m = some r) : ∃ fr2, evOp E C K f rid false pre o fr' m = some ⟨r.v, r.m, fr2⟩ ∧ Agr S r.fr fr2 ∧ Off S fr r.fr ∧ Off S fr' fr2 := by
  have hX : ∀ x ∈ o.op.operands.toList, ∀ t ∈ slotsX pre x, S t := fun x hx => slotsX_of hS hx
  have hA : ∀ nf, ∀ x ∈ o.op.operands.toList, argOf nf fr' x = argOf nf fr x := fun nf x hx => argOf_agr (hX x hx) ha
  have hev0 := hev
  unfold evOp at hev
  split at hev
  · rename_i ho; simp [clsOf, ho] at hc
  · rename_i x ho
    simp only [Option.some.injEq] at hev; subst hev
    obtain ⟨c1, c2, c3, c4, c5⟩ := takeS_congr (E := E) (nf := E.nilF f) (sq := false) (ro := K.ro) (m := m) (hX x (by simp [ho, Op.operands])) ha
    exact ⟨_, by simp only [evOp, ho, c1, c2], c3, c4, c5⟩
  · rename_i ho; simp [clsOf, ho] at hc
  · rename_i ho; simp [clsOf, ho] at hc
  · rename_i t x ho
    simp only [Option.bind_eq_some_iff] at hev
    obtain ⟨n, hn, hev⟩ := hev
    obtain ⟨c1, c2, c3, c4, c5⟩ := takeS_congr (E := E) (nf := E.nilF f) (sq := false) (ro := K.ro) (m := m) (hX x (by simp [ho, Op.operands])) ha
    split at hev
    · rename_i hok
      simp only [Option.some.injEq] at hev; subst hev
      exact ⟨_, by simp only [evOp, ho, c1, c2, hn, Option.bind_some, if_pos hok], c3, c4, c5⟩
    · cases hev
  · rename_i ho; simp [clsOf, ho] at hc
  · rename_i t n parts ho
    simp only [Option.map_eq_some_iff] at hev
    obtain ⟨q, hq, rfl⟩ := hev
    refine ⟨fr', ?_, ha, .refl _ _, .refl _ _⟩
    have : (parts.toList.map fun x => (x.1, argOf (E.nilF f) fr' x.2)) = parts.toList.map fun x => (x.1, argOf (E.nilF f) fr x.2) := by
      refine List.map_congr_left fun x hx => ?_
      rw [hA _ x.2 (by simp only [ho, Op.operands]; exact List.mem_map_of_mem (f := Prod.snd) hx)]
    simp only [evOp, ho, this, hq, Option.map_some]
  · rename_i ho; simp [clsOf, ho] at hc
  · rename_i t x y ho
    simp only [Option.bind_eq_some_iff] at hev
    obtain ⟨n, hn, hev⟩ := hev
    obtain ⟨c1, c2, c3, c4, c5⟩ := takeS_congr (E := E) (nf := E.nilF f) (sq := false) (ro := K.ro) (m := m) (hX y (by simp [ho, Op.operands])) ha
    have hax := hA (E.nilF f) x (by simp [ho, Op.operands])
    split at hev
    · rename_i hlen
      simp only [Option.map_eq_some_iff] at hev
      obtain ⟨m', hm', rfl⟩ := hev
      exact ⟨_, by simp only [evOp, ho, c1, c2, hn, Option.bind_some, if_pos hlen, hax, hm', Option.map_some], c3, c4, c5⟩
    · cases hev
  · rename_i ho; simp [clsOf, ho] at hc
  · rename_i ho; simp [clsOf, ho] at hc
  · rename_i ho; simp [clsOf, ho] at hc
  · rename_i ho; simp [clsOf, ho] at hc
  · rename_i ho; simp [clsOf, ho] at hc
  · rename_i t ho
    refine ⟨fr', ?_, ?_, ?_, .refl _ _⟩
    · simp only [evOp, ho]
      split at hev
      · simp only [Option.some.injEq] at hev; subst hev; simp only
      · cases hev
    · split at hev
      · simp only [Option.some.injEq] at hev; subst hev; exact ha
      · cases hev
    · split at hev
      · simp only [Option.some.injEq] at hev; subst hev; exact .refl _ _
      · cases hev
  · rename_i t l c ho
    simp only [Option.map_eq_some_iff] at hev
    obtain ⟨q, hq, rfl⟩ := hev
    refine ⟨fr', ?_, ha, .refl _ _, .refl _ _⟩
    simp only [evOp, ho, hA (E.nilF f) l (by simp [ho, Op.operands]), hA (E.nilF f) c (by simp [ho, Op.operands]), hq, Option.map_some]
  · rename_i ho; simp [clsOf, ho] at hc
  · rename_i ho; simp [clsOf, ho] at hc
  · rename_i ho; simp [clsOf, ho] at hc
  · rename_i ho; simp [clsOf, ho] at hc
  · rename_i ho; simp [clsOf, ho] at hc
  · rename_i ho; simp [clsOf, ho] at hc
  · rename_i t c k x ho
    split at hev
    · rename_i hl
      simp only [Option.map_eq_some_iff] at hev
      obtain ⟨h', hh, rfl⟩ := hev
      refine ⟨fr', ?_, ha, .refl _ _, .refl _ _⟩
      simp only [evOp, ho, hA (E.nilF f) c (by simp [ho, Op.operands]), hA (E.nilF f) k (by simp [ho, Op.operands]), hA (E.nilF f) x (by simp [ho, Op.operands]), hl, if_true, hh, Option.map_some]
    · cases hev
  · rename_i ho; simp [clsOf, ho] at hc
  · rename_i c ho
    have hargs : ∀ x ∈ c.args.toList, x ∈ o.op.operands.toList := fun x hx => by
      simp only [ho, Op.operands, Call.operands, Array.toList_append]
      exact List.mem_append_right _ hx
    unfold evCall at hev
    split at hev
    · rename_i g0 hcal
      have hg0 := hA (E.nilF f) g0 (by simp [ho, Op.operands, Call.operands, hcal])
      split at hev
      · rename_i gf x y hx
        generalize htk : (if (false || decide (E.md gf < 2)) = true then E.tk gf else []) = tkl at hev
        dsimp only at hev
        obtain ⟨d1, d2, d3, d4, d5⟩ := argsOf_congr (E := E) (nf := E.nilF f) (sq := false) (ro := K.ro) (tk := tkl) c.args.toList 0 fr fr' m (fun x hx => hX x (hargs x hx)) ha
        split at hev
        · rename_i hcnd
          simp only [Option.map_eq_some_iff] at hev
          obtain ⟨q, hq, rfl⟩ := hev
          refine ⟨_, ?_, d3, d4, d5⟩
          simp only [evOp, ho, evCall, hcal, hg0, hx]
          rw [htk]
          simp only [d1, d2, hcnd, if_true, hq, Option.map_some]
        · cases hev
      · cases hev
    · cases hev
    · rename_i b hcal
      unfold evBuiltin at hev
      split at hev
      · split at hev
        · rename_i s x t tx hargl ht
          split at hev
          · cases hev
          · rename_i htx
            simp only [Option.map_eq_some_iff] at hev
            obtain ⟨q, hq, rfl⟩ := hev
            obtain ⟨c1, c2, c3, c4, c5⟩ := takeS_congr (E := E) (nf := E.nilF f) (sq := false) (ro := K.ro) (m := m) (hX s (hargs s (by rw [hargl]; simp))) ha
            refine ⟨_, ?_, c3, c4, c5⟩
            simp only [evOp, ho, evCall, hcal, evBuiltin, hargl, ht, htx, c1, c2, hA (E.nilF f) x (hargs x (by rw [hargl]; simp)), Bool.false_eq_true, if_false, hq, Option.map_some]
        · cases hev
      · simp [clsOf, ho, hcal] at hc
      · simp [clsOf, ho, hcal] at hc
      · split at hev
        · rename_i x k t ts hargl ht
          simp only [Option.map_eq_some_iff] at hev
          obtain ⟨q, hq, rfl⟩ := hev
          refine ⟨fr', ?_, ha, .refl _ _, .refl _ _⟩
          simp only [evOp, ho, evCall, hcal, evBuiltin, hargl, ht, hA (E.nilF f) x (hargs x (by rw [hargl]; simp)), hA (E.nilF f) k (hargs k (by rw [hargl]; simp)), hq, Option.map_some]
        · cases hev
      · cases hev
  · cases hev

end Go.Wn

namespace Go.Wn
open Go

theorem cp_tup {v : V} {cs : List V} (h : cp v = .tup cs) : ∃ vs, v = .tup vs ∧ cpL vs = cs := by
  cases v with
  | tup vs => simp only [cp, V.tup.injEq] at h; exact ⟨vs, rfl, h⟩
  | agg xs => simp only [cp] at h; unfold mkAgg at h; split at h <;> cases h
  | _ => simp [cp] at h

theorem takeS_lost {E : Env} {nf sq : Bool} {ro : Nat} {pre : List Oper} {fr : Fr} {m : Mem} (x : Operand) : Lost fr (takeS E nf sq ro pre fr m x).2.2 := by
  cases x with
  | tmp t =>
    simp only [takeS]
    split
    · exact .slot _ _
    · split
      · split
        · exact .slot _ _
        · exact .refl _
      · split
        · split
          · exact .refl _
          · split
            · exact .refl _
            · split
              · split <;> exact .refl _
              · exact .refl _
        · exact .refl _
  | _ => exact .refl _

theorem argsOf_lost {E : Env} {nf sq : Bool} {ro : Nat} {pre : List Oper} {tk : List Nat} : ∀ (xs : List Operand) (k : Nat) (fr : Fr) (m : Mem), Lost fr (argsOf E nf sq ro pre tk fr m xs k).2.2
  | [], _, _, _ => .refl _
  | x :: xs, k, fr, m => by
    simp only [argsOf]
    split
    · exact (takeS_lost x).trans (argsOf_lost xs (k + 1) _ _)
    · exact argsOf_lost xs (k + 1) _ _

theorem evOp_lost {E : Env} {C : Handler} {K : Ctx} {f rid : Nat} {pre : List Oper} {o : Oper} {fr : Fr} {m : Mem} {r : Out} (h3 : clsOf E o = 3) (hev : evOp E C K f rid false pre o fr m = some r) : Lost fr r.fr := by
  unfold evOp at hev
  split at hev <;> first
    | (rename_i ho; simp [clsOf, ho] at h3; done)
    | skip
  · simp only [Option.some.injEq] at hev; subst hev; exact takeS_lost _
  · simp only [Option.bind_eq_some_iff] at hev
    obtain ⟨n, hn, hev⟩ := hev
    split at hev
    · simp only [Option.some.injEq] at hev; subst hev; exact takeS_lost _
    · cases hev
  · simp only [Option.map_eq_some_iff] at hev
    obtain ⟨q, hq, rfl⟩ := hev; exact .refl _
  · simp only [Option.bind_eq_some_iff] at hev
    obtain ⟨n, hn, hev⟩ := hev
    split at hev
    · simp only [Option.map_eq_some_iff] at hev
      obtain ⟨m', hm', rfl⟩ := hev; exact takeS_lost _
    · cases hev
  · split at hev
    · simp only [Option.some.injEq] at hev; subst hev; exact .refl _
    · cases hev
  · simp only [Option.map_eq_some_iff] at hev
    obtain ⟨q, hq, rfl⟩ := hev; exact .refl _
  · split at hev
    · simp only [Option.map_eq_some_iff] at hev
      obtain ⟨q, hq, rfl⟩ := hev; exact .refl _
    · cases hev
  · unfold evCall at hev
    split at hev
    · split at hev
      · rename_i gf x y hx
        generalize (if (false || decide (E.md gf < 2)) = true then E.tk gf else []) = tkl at hev
        dsimp only at hev
        split at hev
        · simp only [Option.map_eq_some_iff] at hev
          obtain ⟨q, hq, rfl⟩ := hev; exact argsOf_lost _ _ _ _
        · cases hev
      · cases hev
    · cases hev
    · unfold evBuiltin at hev
      split at hev
      · split at hev
        · split at hev
          · cases hev
          · simp only [Option.map_eq_some_iff] at hev
            obtain ⟨q, hq, rfl⟩ := hev; exact takeS_lost _
        · cases hev
      · split at hev
        · simp only [Option.map_eq_some_iff] at hev
          obtain ⟨q, hq, rfl⟩ := hev; exact .refl _
        · cases hev
      · split at hev
        · split at hev
          · split at hev
            · simp only [Option.some.injEq] at hev; subst hev; exact .refl _
            · cases hev
          · cases hev
        · cases hev
      · split at hev
        · simp only [Option.map_eq_some_iff] at hev
          obtain ⟨q, hq, rfl⟩ := hev; exact .refl _
        · cases hev
      · cases hev
  · cases hev

theorem evOp_cpa {E : Env} {C : Handler} (hP : CallPure E C) {K : Ctx} {f rid : Nat} {pre : List Oper} {o : Oper} {fr fr' : Fr} {m : Mem} {r : Out} (hK : Wf K m.h) (h3 : clsOf E o ≠ 3) (h4 : clsOf E o ≠ 4)
    (ha : ∀ t, Operand.tmp t ∈ o.op.operands.toList → cp (rd fr' t) = cp (rd fr t)) (hlen : clsOf E o = 0 → r.m.h.length = m.h.length)
    (hev : evOp E C K f rid false pre o fr m = some r) : evOp E C K f rid false pre o fr' m = some ⟨r.v, m, fr'⟩ ∧ r.fr = fr ∧ r.m = m := by
  have hA : ∀ nf, ∀ x ∈ o.op.operands.toList, argOf nf fr' x = argOf nf fr x := fun nf x hx => argOf_congr fun t e => ha t (by rw [← e]; exact hx)
  unfold evOp at hev
  split at hev
  · rename_i x ho
    simp only [Option.some.injEq] at hev; subst hev
    exact ⟨by simp only [evOp, ho, hA (E.nilF f) x (by simp [ho, Op.operands])], rfl, rfl⟩
  · rename_i ho; exact absurd (by simp [clsOf, ho]) h3
  · rename_i c x y ho
    simp only [Option.map_eq_some_iff] at hev
    obtain ⟨b, hb, rfl⟩ := hev
    refine ⟨?_, rfl, rfl⟩
    simp only [evOp, ho, hA (E.nilF f) c (by simp [ho, Op.operands]), hA (E.nilF f) x (by simp [ho, Op.operands]), hA (E.nilF f) y (by simp [ho, Op.operands]), hb, Option.map_some]
  · rename_i ho; exact absurd (by simp [clsOf, ho]) h4
  · rename_i ho; exact absurd (by simp [clsOf, ho]) h3
  · rename_i t parts ho
    simp only [Bool.false_eq_true, if_false, Option.map_eq_some_iff] at hev
    obtain ⟨v, hv, rfl⟩ := hev
    have : (parts.toList.map fun x => (x.1, argOf (E.nilF f) fr' x.2)) = parts.toList.map fun x => (x.1, argOf (E.nilF f) fr x.2) := by
      refine List.map_congr_left fun x hx => ?_
      rw [hA _ x.2 (by simp only [ho, Op.operands]; exact List.mem_map_of_mem (f := Prod.snd) hx)]
    exact ⟨by simp only [evOp, ho, Bool.false_eq_true, if_false, this, hv, Option.map_some], rfl, rfl⟩
  · rename_i t n parts ho
    simp only [Option.map_eq_some_iff] at hev
    obtain ⟨q, hq, rfl⟩ := hev
    have : (parts.toList.map fun x => (x.1, argOf (E.nilF f) fr' x.2)) = parts.toList.map fun x => (x.1, argOf (E.nilF f) fr x.2) := by
      refine List.map_congr_left fun x hx => ?_
      rw [hA _ x.2 (by simp only [ho, Op.operands]; exact List.mem_map_of_mem (f := Prod.snd) hx)]
    have hq2 : q.2 = m.h := by
      have hq' := hq
      unfold listOf at hq'
      split at hq'
      · simp only [Option.bind_eq_some_iff] at hq'
        obtain ⟨sz, _, z, _, hq'⟩ := hq'
        split at hq'
        · split at hq'
          · split at hq'
            · simp only [Option.some.injEq] at hq'; subst hq'; rfl
            · cases hq'
          · split at hq'
            · simp only [Option.some.injEq] at hq'; subst hq'
              have h0 : clsOf E o = 0 := by
                unfold clsOf at h3 ⊢
                rw [ho] at h3 ⊢
                simp only at h3 ⊢
                split at h3
                · split at h3
                  · exact absurd rfl h3
                  · rename_i e hu hh; rw [if_neg hh]
                · exact absurd rfl h3
              simp [newArr] at hlen
              exact absurd h0 hlen
            · cases hq'
        · cases hq'
      · cases hq'
    refine ⟨?_, rfl, by show (⟨m.lm, q.2⟩ : Mem) = m; rw [hq2]⟩
    simp only [evOp, ho, this, hq, Option.map_some, hq2]
  · rename_i t x ho
    simp only [Option.bind_eq_some_iff, Option.map_eq_some_iff] at hev
    obtain ⟨n, hn, cs, hl, v, hv, rfl⟩ := hev
    exact ⟨by simp only [evOp, ho, hn, Option.bind_some, hA (E.nilF f) x (by simp [ho, Op.operands]), hl, hv, Option.map_some], rfl, rfl⟩
  · rename_i ho; exact absurd (by simp [clsOf, ho]) h3
  · rename_i x ho
    have hx := hA (E.nilF f) x (by simp [ho, Op.operands])
    split at hev <;> first
      | (rename_i e; simp only [Option.some.injEq] at hev; subst hev; exact ⟨by simp only [evOp, ho, hx, e], rfl, rfl⟩)
      | cases hev
  · rename_i op t x y z ho
    simp only [Option.map_eq_some_iff] at hev
    obtain ⟨v, hv, rfl⟩ := hev
    exact ⟨by simp only [evOp, ho, hA (E.nilF f) x (by simp [ho, Op.operands]), hA (E.nilF f) y (by simp [ho, Op.operands]), hv, Option.map_some], rfl, rfl⟩
  · rename_i op t x ho
    simp only [Option.map_eq_some_iff] at hev
    obtain ⟨v, hv, rfl⟩ := hev
    exact ⟨by simp only [evOp, ho, hA (E.nilF f) x (by simp [ho, Op.operands]), hv, Option.map_some], rfl, rfl⟩
  · rename_i s d x ho
    simp only [Option.map_eq_some_iff] at hev
    obtain ⟨v, hv, rfl⟩ := hev
    exact ⟨by simp only [evOp, ho, hA (E.nilF f) x (by simp [ho, Op.operands]), hv, Option.map_some], rfl, rfl⟩
  · rename_i fn p q ho
    split at hev
    · rename_i g'
      have hp : p.toList.map (argOf (E.nilF f) fr') = p.toList.map (argOf (E.nilF f) fr) := List.map_congr_left fun x hx => hA _ x (by simp only [ho, Op.operands, Array.toList_append]; exact List.mem_append_left _ hx)
      have hq : q.toList.map (argOf (E.nilF f) fr') = q.toList.map (argOf (E.nilF f) fr) := List.map_congr_left fun x hx => hA _ x (by simp only [ho, Op.operands, Array.toList_append]; exact List.mem_append_right _ hx)
      split at hev
      · rename_i hc
        simp only [Option.some.injEq] at hev; subst hev
        exact ⟨by simp only [evOp, ho, hp, hq]; rw [if_pos hc], rfl, rfl⟩
      · cases hev
    · cases hev
  · rename_i ho; exact absurd (by simp [clsOf, ho]) h3
  · rename_i ho; exact absurd (by simp [clsOf, ho]) h3
  · rename_i t x lo hi mx ho
    simp only [Option.map_eq_some_iff] at hev
    obtain ⟨v, hv, rfl⟩ := hev
    have e1 : lo.map (argOf (E.nilF f) fr') = lo.map (argOf (E.nilF f) fr) := by
      cases lo with
      | none => rfl
      | some y => simp only [Option.map_some]; rw [hA _ y (by simp [ho, Op.operands])]
    have e2 : hi.map (argOf (E.nilF f) fr') = hi.map (argOf (E.nilF f) fr) := by
      cases hi with
      | none => rfl
      | some y => simp only [Option.map_some]; rw [hA _ y (by simp [ho, Op.operands])]
    have e3 : mx.map (argOf (E.nilF f) fr') = mx.map (argOf (E.nilF f) fr) := by
      cases mx with
      | none => rfl
      | some y => simp only [Option.map_some]; rw [hA _ y (by simp [ho, Op.operands])]
    refine ⟨?_, rfl, rfl⟩
    simp only [evOp, ho, e1, e2, e3, hA (E.nilF f) x (by simp [ho, Op.operands]), hv, Option.map_some]
  · rename_i t x i ho
    simp only [Option.bind_eq_some_iff] at hev
    obtain ⟨q, hq, n, hn, hev⟩ := hev
    split at hev
    · cases hev
    · rename_i h0
      simp only [Option.map_eq_some_iff] at hev
      obtain ⟨v, hv, rfl⟩ := hev
      exact ⟨by simp only [evOp, ho, hq, hn, Option.bind_some, if_neg h0, hA (E.nilF f) x (by simp [ho, Op.operands]), hv, Option.map_some], rfl, rfl⟩
  · rename_i t x i ho
    simp only [Option.bind_eq_some_iff, Option.map_eq_some_iff] at hev
    obtain ⟨q, hq, n, hn, xs, hx, cs, hc, v, hv, rfl⟩ := hev
    exact ⟨by simp only [evOp, ho, hq, hn, Option.bind_some, hA (E.nilF f) x (by simp [ho, Op.operands]), hx, hc, hv, Option.map_some], rfl, rfl⟩
  · rename_i t x i ho
    simp only [Option.map_eq_some_iff] at hev
    obtain ⟨v, hv, rfl⟩ := hev
    exact ⟨by simp only [evOp, ho, hA (E.nilF f) x (by simp [ho, Op.operands]), hA (E.nilF f) i (by simp [ho, Op.operands]), hv, Option.map_some], rfl, rfl⟩
  · rename_i t x i ho
    simp only [Option.map_eq_some_iff] at hev
    obtain ⟨v, hv, rfl⟩ := hev
    exact ⟨by simp only [evOp, ho, hA (E.nilF f) x (by simp [ho, Op.operands]), hA (E.nilF f) i (by simp [ho, Op.operands]), hv, Option.map_some], rfl, rfl⟩
  · rename_i t c k ok ho
    simp only [Option.map_eq_some_iff] at hev
    obtain ⟨v, hv, rfl⟩ := hev
    exact ⟨by simp only [evOp, ho, hA (E.nilF f) c (by simp [ho, Op.operands]), hA (E.nilF f) k (by simp [ho, Op.operands]), hv, Option.map_some], rfl, rfl⟩
  · rename_i ho; exact absurd (by simp [clsOf, ho]) h3
  · rename_i x i ho
    split at hev
    · rename_i t
      simp only [Bool.false_eq_true, if_false] at hev
      split at hev
      · rename_i vs hvs
        simp only [Option.map_eq_some_iff, Bool.false_and, Bool.false_eq_true, if_false] at hev
        obtain ⟨v, hv, rfl⟩ := hev
        have h1 := ha t (by simp [ho, Op.operands])
        rw [hvs] at h1
        obtain ⟨vs', e1, e2⟩ := cp_tup h1
        have h2 : (cpL vs')[i]? = (cpL vs)[i]? := by rw [e2]
        rw [cpL_get, cpL_get, hv] at h2
        simp only [Option.map_some, Option.map_eq_some_iff] at h2
        obtain ⟨v', hv', e3⟩ := h2
        refine ⟨?_, rfl, rfl⟩
        simp only [evOp, ho, Bool.false_eq_true, if_false, e1, hv', Option.map_some, Bool.false_and, e3]
      · cases hev
    · cases hev
  · rename_i c ho
    have hargs : ∀ x ∈ c.args.toList, x ∈ o.op.operands.toList := fun x hx => by
      simp only [ho, Op.operands, Call.operands, Array.toList_append]
      exact List.mem_append_right _ hx
    unfold evCall at hev
    split at hev
    · rename_i g0 hcal
      cases g0 with
      | func g1 =>
        simp only [argOf] at hev
        have hmd : 2 ≤ E.md g1 := by
          by_cases h : 2 ≤ E.md g1
          · exact h
          · exact absurd (by simp [clsOf, ho, hcal, h]) h3
        have htk : (if (false || decide (E.md g1 < 2)) = true then E.tk g1 else []) = [] := by
          rw [if_neg]; simp; omega
        rw [htk, argsOf_nil] at hev
        dsimp only at hev
        have hargm : c.args.toList.map (argOf (E.nilF f) fr') = c.args.toList.map (argOf (E.nilF f) fr) := List.map_congr_left fun x hx => hA _ x (hargs x hx)
        split at hev
        · rename_i hcnd
          simp only [Option.map_eq_some_iff] at hev
          obtain ⟨q, hq, rfl⟩ := hev
          have hcnd' := hcnd
          simp only [Bool.and_eq_true] at hcnd'
          have hq2 : q.2 = m.h := (hP _ _ _ _ _ _ hq (Nat.le_trans hK.ro hK.base) hcnd'.2).quiet hmd
          refine ⟨?_, rfl, by show (⟨m.lm, q.2⟩ : Mem) = m; rw [hq2]⟩
          simp only [evOp, ho, evCall, hcal, argOf]
          rw [htk, argsOf_nil, hargm]
          dsimp only
          rw [if_pos hcnd, hq]
          simp only [Option.map_some, hq2]
        · cases hev
      | _ => exact absurd (by simp [clsOf, ho, hcal]) h3
    · cases hev
    · rename_i b hcal
      unfold evBuiltin at hev
      split at hev
      · exact absurd (by simp [clsOf, ho, hcal]) h3
      · split at hev
        · rename_i x t hargl ht
          simp only [Option.map_eq_some_iff] at hev
          obtain ⟨q, hq, rfl⟩ := hev
          exact ⟨by simp only [evOp, ho, evCall, hcal, evBuiltin, hargl, ht, hA (E.nilF f) x (hargs x (by rw [hargl]; simp)), hq, Option.map_some], rfl, rfl⟩
        · cases hev
      · split at hev
        · rename_i x y hargl
          split at hev
          · rename_i k p k' q e1 e2
            split at hev
            · rename_i hk
              simp only [Option.some.injEq] at hev; subst hev
              refine ⟨?_, rfl, rfl⟩
              simp only [evOp, ho, evCall, hcal, evBuiltin, hargl, hA (E.nilF f) x (hargs x (by rw [hargl]; simp)), hA (E.nilF f) y (hargs y (by rw [hargl]; simp)), e1, e2, if_pos hk]
            · cases hev
          · cases hev
        · cases hev
      · exact absurd (by simp [clsOf, ho, hcal]) h3
      · cases hev
  · cases hev

/-- an operation that reads no memory -/
theorem evOp_cls0 {E : Env} {C : Handler} {K : Ctx} {f rid : Nat} {pre : List Oper} {o : Oper} {fr : Fr} {m : Mem} {r : Out} (h0 : clsOf E o = 0) (hlen : r.m.h.length = m.h.length)
    (hev : evOp E C K f rid false pre o fr m = some r) (m' : Mem) : evOp E C K f rid false pre o fr m' = some ⟨r.v, m', fr⟩ := by
  unfold evOp at hev
  split at hev
  · rename_i x ho
    simp only [Option.some.injEq] at hev; subst hev
    simp only [evOp, ho]
  · rename_i ho; simp [clsOf, ho] at h0
  · rename_i c x y ho
    simp only [Option.map_eq_some_iff] at hev
    obtain ⟨b, hb, rfl⟩ := hev
    simp only [evOp, ho, hb, Option.map_some]
  · rename_i ho; simp [clsOf, ho] at h0
  · rename_i ho; simp [clsOf, ho] at h0
  · rename_i t parts ho
    simp only [Bool.false_eq_true, if_false, Option.map_eq_some_iff] at hev
    obtain ⟨v, hv, rfl⟩ := hev
    simp only [evOp, ho, Bool.false_eq_true, if_false, hv, Option.map_some]
  · rename_i t n parts ho
    simp only [Option.map_eq_some_iff] at hev
    obtain ⟨q, hq, rfl⟩ := hev
    have hl : listOf E.Q m'.h t n (parts.toList.map fun x => (x.1, argOf (E.nilF f) fr x.2)) = some (q.1, m'.h) := by
      unfold listOf at hq ⊢
      split at hq
      · rename_i e hu
        simp only [Option.bind_eq_some_iff] at hq
        obtain ⟨sz, hsz, z, hz, hq⟩ := hq
        simp only [hsz, hz, Option.bind_some]
        split at hq
        · rename_i hc
          rw [if_pos hc]
          split at hq
          · rename_i es hes
            split at hq
            · rename_i hes2
              simp only [Option.some.injEq] at hq; subst hq
              simp only [hes2, if_true]
            · cases hq
          · split at hq
            · simp only [Option.some.injEq] at hq; subst hq
              simp [newArr] at hlen
            · cases hq
        · cases hq
      · cases hq
    simp only [evOp, ho, hl, Option.map_some]
  · rename_i ho; simp [clsOf, ho] at h0
  · rename_i ho; simp [clsOf, ho] at h0
  · rename_i x ho
    split at hev <;> first
      | (rename_i e; simp only [Option.some.injEq] at hev; subst hev; simp only [evOp, ho, e])
      | cases hev
  · rename_i op t x y z ho
    simp only [Option.map_eq_some_iff] at hev
    obtain ⟨v, hv, rfl⟩ := hev
    simp only [evOp, ho, hv, Option.map_some]
  · rename_i op t x ho
    simp only [Option.map_eq_some_iff] at hev
    obtain ⟨v, hv, rfl⟩ := hev
    simp only [evOp, ho, hv, Option.map_some]
  · rename_i s d x ho
    simp only [Option.map_eq_some_iff] at hev
    obtain ⟨v, hv, rfl⟩ := hev
    simp only [evOp, ho, hv, Option.map_some]
  · rename_i fn p q ho
    split at hev
    · split at hev
      · rename_i hc
        simp only [Option.some.injEq] at hev; subst hev
        simp only [evOp, ho]; rw [if_pos hc]
      · cases hev
    · cases hev
  · rename_i ho; simp [clsOf, ho] at h0
  · rename_i ho; simp [clsOf, ho] at h0
  · rename_i ho; simp [clsOf, ho] at h0
  · rename_i t x i ho
    simp only [Option.bind_eq_some_iff] at hev
    obtain ⟨q, hq, n, hn, hev⟩ := hev
    split at hev
    · cases hev
    · rename_i h0'
      simp only [Option.map_eq_some_iff] at hev
      obtain ⟨v, hv, rfl⟩ := hev
      simp only [evOp, ho, hq, hn, Option.bind_some, if_neg h0', hv, Option.map_some]
  · rename_i t x i ho
    simp only [Option.bind_eq_some_iff, Option.map_eq_some_iff] at hev
    obtain ⟨q, hq, n, hn, xs, hx, cs, hc, v, hv, rfl⟩ := hev
    simp only [evOp, ho, hq, hn, Option.bind_some, hx, hc, hv, Option.map_some]
  · rename_i ho; simp [clsOf, ho] at h0
  · rename_i t x i ho
    simp only [Option.map_eq_some_iff] at hev
    obtain ⟨v, hv, rfl⟩ := hev
    simp only [evOp, ho, hv, Option.map_some]
  · rename_i ho; simp [clsOf, ho] at h0
  · rename_i ho; simp [clsOf, ho] at h0
  · rename_i x i ho
    split at hev
    · rename_i t
      simp only [Bool.false_eq_true, if_false] at hev
      split at hev
      · rename_i vs hvs
        simp only [Option.map_eq_some_iff, Bool.false_and, Bool.false_eq_true, if_false] at hev
        obtain ⟨v, hv, rfl⟩ := hev
        simp only [evOp, ho, Bool.false_eq_true, if_false, hvs, hv, Option.map_some, Bool.false_and]
      · cases hev
    · cases hev
  · rename_i c ho
    unfold evCall at hev
    split at hev
    · rename_i g0 hcal
      cases g0 with
      | func g1 =>
        simp only [clsOf, ho, hcal] at h0
        split at h0 <;> cases h0
      | _ => simp [clsOf, ho, hcal] at h0
    · cases hev
    · rename_i b hcal
      unfold evBuiltin at hev
      split at hev
      · simp [clsOf, ho, hcal] at h0
      · simp [clsOf, ho, hcal] at h0
      · split at hev
        · rename_i x y hargl
          split at hev
          · rename_i k p k' q e1 e2
            split at hev
            · rename_i hk
              simp only [Option.some.injEq] at hev; subst hev
              simp only [evOp, ho, evCall, hcal, evBuiltin, hargl, e1, e2, if_pos hk]
            · cases hev
          · cases hev
        · cases hev
      · simp [clsOf, ho, hcal] at h0
      · cases hev
  · cases hev

/-- what a guard reads -/
def wv (want : Bool) : V → Option Bool
  | .p (.b x) => some (x == want)
  | .nov => some false
  | .p (.i _ _) => some false
  | _ => none

theorem wv_cp (want : Bool) (v : V) : wv want (cp v) = wv want v := by
  cases v with
  | agg cs =>
    simp only [cp]
    unfold mkAgg
    split <;> rfl
  | own es => rfl
  | tup vs => rfl
  | _ => rfl

theorem wantedV_cp {ops : Array Oper} {fr fr' : Fr} {o : Oper} (h : ∀ d ∈ guardSlot ops o, cp (rd fr' d) = cp (rd fr d)) : wantedV ops fr' o = wantedV ops fr o := by
  unfold wantedV
  unfold guardSlot at h
  split
  · rfl
  · rename_i j want hg
    simp only [hg] at h
    split
    · rfl
    · rename_i d hd
      rw [hd] at h
      have h1 := h d (by simp)
      have h2 : wv want (rd fr' d) = wv want (rd fr d) := by rw [← wv_cp, h1, wv_cp]
      exact h2

end Go.Wn

namespace Go.Wn
open Go

theorem def_at : ∀ (pre : List Oper) (t : Nat) (op : Op), defOf pre t = some op → ∃ (i : Nat) (o : Oper), pre[i]? = some o ∧ o.dst = some t ∧ o.op = op ∧ ∀ (w : Nat) (o' : Oper), i < w → pre[w]? = some o' → o' ∈ behindDef pre t
  | [], t, op, h => by simp [defOf] at h
  | o :: pre, t, op, h => by
    by_cases e : o.dst = some t
    · have hd : defOf (o :: pre) t = some o.op := by simp [defOf, e]
      have hb : behindDef (o :: pre) t = pre := by simp [behindDef, e]
      rw [hd] at h
      simp only [Option.some.injEq] at h
      refine ⟨0, o, rfl, e, h, fun w o' hw ho' => ?_⟩
      rw [hb]
      cases w with
      | zero => omega
      | succ w => exact List.mem_of_getElem? (by simpa using ho')
    · have hd : defOf (o :: pre) t = defOf pre t := by simp [defOf, e]
      have hb : behindDef (o :: pre) t = behindDef pre t := by simp [behindDef, e]
      rw [hd] at h
      obtain ⟨i, o1, h1, h2, h3, h4⟩ := def_at pre t op h
      refine ⟨i + 1, o1, by simpa using h1, h2, h3, fun w o' hw ho' => ?_⟩
      rw [hb]
      cases w with
      | zero => omega
      | succ w => exact h4 w o' (by omega) (by simpa using ho')

def putT (tm : Array Value) (d : Option Tmp) (y : Value) : Array Value :=
  match d with
  | some d => tm.setIfInBounds d y
  | none => tm

theorem put_tmps (a : Act) (d : Option Tmp) (y : Value) : (a.put d y).tmps = putT a.tmps d y := by cases d <;> rfl
theorem put_defers (a : Act) (d : Option Tmp) (y : Value) : (a.put d y).defers = a.defers := by cases d <;> rfl
theorem putT_size (tm : Array Value) (d : Option Tmp) (y : Value) : (putT tm d y).size = tm.size := by cases d <;> simp [putT]
theorem putT_ne {tm : Array Value} {d : Option Tmp} {y : Value} {t : Nat} (h : d ≠ some t) : (putT tm d y).getD t undef = tm.getD t undef := by
  cases d with
  | none => rfl
  | some d =>
    simp only [putT, Array.getD_eq_getD_getElem?]
    rw [Array.getElem?_setIfInBounds_ne (by simpa using h)]
theorem putT_at {tm : Array Value} {t : Nat} {y : Value} (h : t < tm.size) : (putT tm (some t) y).getD t undef = y := by
  simp [putT, Array.getD_eq_getD_getElem?, h]
theorem putF_ne {fr : Fr} {d : Option Tmp} {v : V} {t : Nat} (h : d ≠ some t) : rd (putF fr d v) t = rd fr t := by
  cases d with
  | none => rfl
  | some d =>
    simp only [putF, rd_setF]
    rw [if_neg (by simpa using h)]
theorem putF_at (fr : Fr) (v : V) (t : Nat) : rd (putF fr (some t) v) t = v := by simp [putF, rd_setF]

theorem RelV.putO {Cx : Nat → Nat} {g : Gh} {w : World} {tm : Array Value} {fr : Fr} {m : Mem} {v : V} {y : Value} (h : RelV Cx g w tm fr m v y) (d : Option Tmp) (hd : ∀ t, d = some t → t < tm.size) :
    Rel Cx g w (putT tm d y) (putF fr d v) m := by
  cases d with
  | none => exact h.rel
  | some d => exact h.put (hd d rfl)

theorem cell?_congr {w w' : World} {B o : Nat} (h : w'.heap[B]? = w.heap[B]?) : w'.cell? ⟨B, o, none⟩ = w.cell? ⟨B, o, none⟩ := by simp [World.cell?, h]

theorem Cell1.congr {E : Env} {g : Gh} {w : World} {tm tm' : Array Value} {fr fr' : Fr} {ty a : Nat} {y : Value} (h : Cell1 E g w tm fr ty a y) (h1 : tm'.getD a undef = tm.getD a undef) (h2 : isLptr (rd fr' a) = isLptr (rd fr a)) : Cell1 E g w tm' fr' ty a y := by
  obtain ⟨n, b, B, off, f, p1, p2, p3, p4, p5, p6, p7⟩ := h
  exact ⟨n, b, B, off, f, p1, p2, p3, h1.trans p4, p5, p6, by rw [h2]; exact p7⟩

theorem Cell1.keep {E : Env} {K : Ctx} {o : Oper} {Cx : Nat → Nat} {g g' : Gh} {w w' : World} {tm : Array Value} {fr : Fr} {m m' : Mem} (hr : Rel Cx g w tm fr m) (st : Stp (Dk E K o Cx g w m) g w g' w')
    (hshp : writesMem E o = false → ∀ b, b < m.h.length → shp m'.h b = shp m.h b) (hp' : g'.sh = shp m'.h) {ty a : Nat} {y : Value} (hc : if isLptr (rd fr a) then isStore o = false else writesMem E o = false)
    (h : Cell1 E g w tm fr ty a y) : Cell1 E g' w' tm fr ty a y := by
  obtain ⟨n, b, B, off, f, p1, p2, p3, p4, p5, p6, p7⟩ := h
  have fin : w'.heap[B]? = w.heap[B]? → ∀ j, j < n → w'.cell? ⟨B, off + j, none⟩ = some (f j) := fun he j hj => by rw [cell?_congr he]; exact p6 j hj
  by_cases hl : isLptr (rd fr a) = true
  · simp only [hl, if_true] at hc p7
    obtain ⟨c, hcB⟩ := p7
    have hlt := lt_of_get hcB
    rw [hr.lm.len] at hlt
    have h1 := Sm_get (n := m.lm.length) (d := c) (f := fun b => if g.lam.getD b 0 = B then 1 else 0) hlt
    have h2 : g.lam.getD c 0 = B := by simp [List.getD, hcB]
    simp only [h2, if_true] at h1
    have hD : 0 < Dk E K o Cx g w m B := by
      unfold Dk lids
      rw [hc]
      simp only [Bool.false_eq_true, if_false]
      omega
    exact ⟨n, b, B, off, f, p1, p2, p3, p4, p5, fin (st.kp B hD).1, by simp only [hl, if_true]; exact ⟨c, st.ge.lam c B hcB⟩⟩
  · simp only [hl, Bool.false_eq_true, if_false] at hc p7
    rcases p7 with ⟨c, hcB⟩ | hfz
    · have hlt := lt_of_get hcB
      rw [hr.hp.len] at hlt
      have h1 := Sm_get (n := m.h.length) (d := c) (f := fun b => if g.ρ.getD b none = some B then 1 else 0) hlt
      have h2 : g.ρ.getD c none = some B := by simp [List.getD, hcB]
      simp only [h2, if_true] at h1
      have hD : 0 < Dk E K o Cx g w m B := by
        unfold Dk hids
        rw [hc]
        simp only [Bool.false_eq_true, if_false]
        omega
      refine ⟨n, b, B, off, f, p1, p2, p3, p4, p5, fin (st.kp B hD).1, ?_⟩
      simp only [hl, Bool.false_eq_true, if_false]
      refine .inl ⟨c, ?_⟩
      cases hs : g.sh c with
      | none => exact (st.ge.pt c B hs hcB).2
      | some q =>
        obtain ⟨sz, k⟩ := q
        obtain ⟨k', e1, e2, e3⟩ := st.ge.sh c sz k hs
        rw [hp', hshp hc c hlt, ← hr.hp.sh, hs] at e1
        simp only [Option.some.injEq, Prod.mk.injEq, true_and] at e1
        exact e3 e1 B hcB
    · refine ⟨n, b, B, off, f, p1, p2, p3, p4, p5, fun j hj => (st.fz.cell B (off + j) _ (hfz j hj) (p6 j hj)).2, ?_⟩
      simp only [hl, Bool.false_eq_true, if_false]
      exact .inr fun j hj => (st.fz.cell B (off + j) _ (hfz j hj) (p6 j hj)).1

/-- what was copied or loaded by the operations in L stands as it did -/
structure IdL (E : Env) (sq : Bool) (ops : Array Oper) (L : Nat → Prop) (g : Gh) (w : World) (tm : Array Value) (fr : Fr) : Prop where
  cpy : ∀ i o t s, L i → ops[i]? = some o → o.op = .move (.tmp s) → o.dst = some t → isNov (rd fr t) = false → (∀ k o', L k → i < k → ops[k]? = some o' → o'.dst ≠ some s ∧ o'.dst ≠ some t) →
    tm.getD t undef = tm.getD s undef
  ldd : ∀ i o t ty a, L i → ops[i]? = some o → o.op = .load ty (.tmp a) → o.dst = some t → a ≠ t → isNov (rd fr t) = false → (∀ k o', L k → i < k → ops[k]? = some o' → o'.dst ≠ some a ∧ o'.dst ≠ some t) →
    (∀ k o', L k → (sq = true → i < k) → ops[k]? = some o' → if isLptr (rd fr a) then isStore o' = false else writesMem E o' = false) → Cell1 E g w tm fr ty a (tm.getD t undef)

theorem IdL.empty {E : Env} {sq : Bool} {ops : Array Oper} {L : Nat → Prop} (hL : ∀ i, ¬ L i) (g : Gh) (w : World) (tm : Array Value) (fr : Fr) : IdL E sq ops L g w tm fr :=
  ⟨fun i _ _ _ hi => absurd hi (hL i), fun i _ _ _ _ hi => absurd hi (hL i)⟩

theorem mem_tmpsOf {xs : List Operand} {t : Nat} : t ∈ tmpsOf xs ↔ Operand.tmp t ∈ xs := by
  unfold tmpsOf
  rw [List.mem_filterMap]
  constructor
  · rintro ⟨x, hx, e⟩
    cases x <;> simp at e
    subst e; exact hx
  · exact fun h => ⟨_, h, rfl⟩

theorem names_opd {ops : Array Oper} {o : Oper} {t : Nat} (h : Operand.tmp t ∈ o.op.operands.toList) : t ∈ namesOf ops o := List.mem_append_right _ (mem_tmpsOf.2 h)
theorem names_dst {ops : Array Oper} {o : Oper} {t : Nat} (h : o.dst = some t) : t ∈ namesOf ops o := List.mem_append_left _ (List.mem_append_left _ (by simp [h]))

theorem IdL.step {E : Env} {sq : Bool} {ops : Array Oper} {L : Nat → Prop} {g g' : Gh} {w w' : World} {tm : Array Value} {fr fr1 : Fr} {v : V} {y : Value} (h : IdL E sq ops L g w tm fr) {k : Nat} {o : Oper} (hok : ops[k]? = some o)
    (hord : ∀ i oi t, L i → ops[i]? = some oi → t ∈ namesOf ops oi → o.dst = some t → i < k) (hsq : sq = true → ∀ i, L i → i < k) (hl : Lost fr fr1) (hsz : ∀ d, o.dst = some d → d < tm.size)
    (hkeep : ∀ ty a z, (if isLptr (rd fr a) then isStore o = false else writesMem E o = false) → Cell1 E g w tm fr ty a z → Cell1 E g' w' tm fr ty a z)
    (hmv : ∀ s, o.op = .move (.tmp s) → isNov v = false → y = tm.getD s undef)
    (hld : ∀ ty a, o.op = .load ty (.tmp a) → isNov v = false → Cell1 E g' w' tm fr ty a y) :
    IdL E sq ops (fun i => L i ∨ i = k) g' w' (putT tm o.dst y) (putF fr1 o.dst v) := by
  constructor
  · intro i oi t s hi hoi hop hdst hnov hlater
    rcases hi with hi | rfl
    · have hs : o.dst ≠ some s := fun e => (hlater k o (.inr rfl) (hord i oi s hi hoi (names_opd (by simp [hop, Op.operands])) e) hok).1 e
      have ht : o.dst ≠ some t := fun e => (hlater k o (.inr rfl) (hord i oi t hi hoi (names_dst hdst) e) hok).2 e
      rw [putT_ne ht, putT_ne hs]
      rw [putF_ne ht, hl.nov] at hnov
      exact h.cpy i oi t s hi hoi hop hdst hnov fun k' o' hk' => hlater k' o' (.inl hk')
    · rw [hoi] at hok
      simp only [Option.some.injEq] at hok
      subst hok
      rw [hdst, putF_at] at hnov
      rw [hdst, putT_at (hsz t hdst)]
      by_cases e : t = s
      · subst e; rw [putT_at (hsz t hdst)]
      · rw [putT_ne (by simpa using e)]
        exact hmv s hop hnov
  · intro i oi t ty a hi hoi hop hdst hat hnov hlater hmem
    rcases hi with hi | rfl
    · have hs : o.dst ≠ some a := fun e => (hlater k o (.inr rfl) (hord i oi a hi hoi (names_opd (by simp [hop, Op.operands])) e) hok).1 e
      have ht : o.dst ≠ some t := fun e => (hlater k o (.inr rfl) (hord i oi t hi hoi (names_dst hdst) e) hok).2 e
      have hlp : isLptr (rd (putF fr1 o.dst v) a) = isLptr (rd fr a) := by rw [putF_ne hs, hl.lptr]
      rw [putF_ne ht, hl.nov] at hnov
      rw [putT_ne ht]
      have h1 := h.ldd i oi t ty a hi hoi hop hdst hat hnov (fun k' o' hk' => hlater k' o' (.inl hk')) fun k' o' hk' hlt hok' => by
        have := hmem k' o' (.inl hk') hlt hok'
        rw [hlp] at this; exact this
      have h2 := hmem k o (.inr rfl) (fun e => hsq e i hi) hok
      rw [hlp] at h2
      exact (hkeep ty a _ h2 h1).congr (putT_ne hs) hlp
    · rw [hoi] at hok
      simp only [Option.some.injEq] at hok
      subst hok
      rw [hdst, putF_at] at hnov
      rw [hdst, putT_at (hsz t hdst)]
      have hne : (some t : Option Nat) ≠ some a := by simpa using fun e : t = a => hat e.symm
      exact (hld ty a hop hnov).congr (putT_ne hne) (by rw [putF_ne hne, hl.lptr])

theorem IdL.ids {P : Program} {E : Env} (hQ : TabOk P E.Q) {sq : Bool} {ops : Array Oper} {L : Nat → Prop} {g : Gh} {w : World} {tm : Array Value} {fr : Fr} (h : IdL E sq ops L g w tm fr) {j : Nat} (hj : ¬ L j) {S : Nat → Prop}
    (hbef : ∀ t i oi, S t → ops[i]? = some oi → oi.dst = some t → i < j → L i)
    (haft : ∀ t u k ok, S t → (u = t ∨ u ∈ extraOf (ops.toList.take j) (.tmp t)) → ops[k]? = some ok → ok.dst = some u → j < k → ¬ L k)
    (hmem : sq = false → (∃ t, S t) → ∀ k ok, L k → j < k → ops[k]? = some ok → isStore ok = false ∧ writesMem E ok = false) (hsq : sq = true → ∀ i, L i → i < j) :
    Ids P E sq S (ops.toList.take j) fr tm w := by
  have pre_get : ∀ (i : Nat) (o : Oper), (ops.toList.take j)[i]? = some o → i < j ∧ ops[i]? = some o := fun i o hi => by
    rw [List.getElem?_take] at hi
    split at hi
    · rename_i hlt; exact ⟨hlt, by simpa using hi⟩
    · cases hi
  have get_pre : ∀ (i : Nat) (o : Oper), i < j → ops[i]? = some o → (ops.toList.take j)[i]? = some o := fun i o hi e => by
    rw [List.getElem?_take, if_pos hi]; simpa using e
  have later : ∀ (t u i : Nat), S t → (u = t ∨ u ∈ extraOf (ops.toList.take j) (.tmp t)) → (∀ w o', i < w → (ops.toList.take j)[w]? = some o' → o' ∈ behindDef (ops.toList.take j) t) →
      (behindDef (ops.toList.take j) t).all (fun o => o.dst != some u && o.dst != some t) = true → ∀ k o', L k → i < k → ops[k]? = some o' → o'.dst ≠ some u ∧ o'.dst ≠ some t := by
    intro t u i hS hu hb hall k o' hk hik hok
    rw [List.all_eq_true] at hall
    rcases Nat.lt_trichotomy k j with hlt | rfl | hgt
    · have := hall o' (hb k o' hik (get_pre k o' hlt hok))
      simpa using this
    · exact absurd hk hj
    · exact ⟨fun e => haft t u k o' hS hu hok e hgt hk, fun e => haft t t k o' hS (.inl rfl) hok e hgt hk⟩
  constructor
  · intro t s hS hc
    obtain ⟨d1, d2, d3⟩ := copyOf_def hc
    obtain ⟨i, o, e1, e2, e3, e4⟩ := def_at _ _ _ d1
    obtain ⟨hij, hoi⟩ := pre_get i o e1
    exact h.cpy i o t s (hbef t i o hS hoi e2 hij) hoi e3 e2 d2 (later t s i hS (.inr (copyOf_extra hc)) e4 d3)
  · intro t ty a hS hc
    obtain ⟨d1, d2, d3, d4, d5⟩ := loadOf_def hc
    obtain ⟨i, o, e1, e2, e3, e4⟩ := def_at _ _ _ d1
    obtain ⟨hij, hoi⟩ := pre_get i o e1
    have hcell := h.ldd i o t ty a (hbef t i o hS hoi e2 hij) hoi e3 e2 d3 d2 (later t a i hS (.inr (loadOf_extra hc)) e4 d4) fun k o' hk hik hok => by
      have hin : k < j → o' ∈ (if sq = true then behindDef (ops.toList.take j) t else ops.toList.take j) := fun hlt => by
        split
        · rename_i hs; exact e4 k o' (hik hs) (get_pre k o' hlt hok)
        · exact List.mem_of_getElem? (get_pre k o' hlt hok)
      have hout : ¬ k < j → isStore o' = false ∧ writesMem E o' = false := fun hn => by
        cases hs : sq with
        | true => exact absurd (hsq hs k hk) hn
        | false =>
          have : j ≠ k := fun e => hj (e ▸ hk)
          exact hmem hs ⟨t, hS⟩ k o' hk (by omega) hok
      by_cases hlt : k < j
      · have hin := hin hlt
        split at d5
        · rename_i hl
          rw [if_pos hl]
          rw [List.all_eq_true] at d5
          simpa using d5 o' hin
        · rename_i hl
          rw [if_neg hl]
          rw [List.all_eq_true] at d5
          simpa using d5 o' hin
      · obtain ⟨q1, q2⟩ := hout hlt
        split
        · exact q1
        · exact q2
    obtain ⟨n, b, B, off, f, p1, p2, p3, p4, p5, p6, p7⟩ := hcell
    rw [p4, p5]
    exact run_loadAt hQ p1 p2 p6 p3

end Go.Wn

namespace Go.Wn
open Go

def D0 (K : Ctx) (Cx : Nat → Nat) (g : Gh) (w : World) (m : Mem) (B : Nat) : Nat := Cx B + hcnt B w (m.h.take K.ro) g.ρ

/-- from one state to a later one, as the callers see it -/
structure Reach (K : Ctx) (Cx : Nat → Nat) (g : Gh) (w : World) (m : Mem) (g' : Gh) (w' : World) (m' : Mem) : Prop where
  stp : Stp (D0 K Cx g w m) g w g' w'
  old : ∀ b, b < K.ro → g'.ρ[b]? = g.ρ[b]?
  inv : HInv K m.h m'.h

theorem Reach.refl (K : Ctx) (Cx : Nat → Nat) (g : Gh) (w : World) (m : Mem) : Reach K Cx g w m g w m := ⟨.refl _ _ _, fun _ _ => rfl, .refl _ _⟩

theorem take_of_inv {K : Ctx} {h h' : Heap} (hi : HInv K h h') : h'.take K.ro = h.take K.ro := by
  apply List.ext_getElem?
  intro i
  rw [List.getElem?_take, List.getElem?_take]
  split
  · rename_i hlt; exact hi.old i hlt
  · rfl

theorem D0_eq {K : Ctx} {Cx : Nat → Nat} {g g' : Gh} {w w' : World} {m m' : Mem} (st : Stp (D0 K Cx g w m) g w g' w') (old : ∀ b, b < K.ro → g'.ρ[b]? = g.ρ[b]?) (ht : m'.h.take K.ro = m.h.take K.ro) (B : Nat) :
    D0 K Cx g' w' m' B = D0 K Cx g w m B := by
  unfold D0
  rw [ht]
  congr 1
  have h1 : hcnt B w' (m.h.take K.ro) g'.ρ = hcnt B w' (m.h.take K.ro) g.ρ := by
    unfold hcnt
    refine Sm_congr fun b hb => ?_
    have hb' : b < K.ro := by simp at hb; omega
    unfold hterm
    have : g'.ρ.getD b none = g.ρ.getD b none := by simp [List.getD, old b hb']
    rw [this]
  rw [h1]
  refine hcnt_keep fun b R hb hR => (st.kp R ?_).1
  obtain ⟨x, hx⟩ : ∃ x, (m.h.take K.ro)[b]? = some x := ⟨_, List.getElem?_eq_getElem hb⟩
  have h2 := hterm_some (B := R) (w := w) hx hR
  have h3 : hterm R w (m.h.take K.ro) g.ρ b ≤ hcnt R w (m.h.take K.ro) g.ρ := Sm_get hb
  show 0 < Cx R + hcnt R w (m.h.take K.ro) g.ρ
  simp only [if_true] at h2
  omega

theorem Reach.trans {K : Ctx} {Cx : Nat → Nat} {g g1 g2 : Gh} {w w1 w2 : World} {m m1 m2 : Mem} (h : Reach K Cx g w m g1 w1 m1) (k : Reach K Cx g1 w1 m1 g2 w2 m2) : Reach K Cx g w m g2 w2 m2 :=
  ⟨h.stp.trans (k.stp.mono fun B => Nat.le_of_eq (D0_eq h.stp h.old (take_of_inv h.inv) B).symm), fun b hb => (k.old b hb).trans (h.old b hb), h.inv.trans k.inv⟩

theorem Dk_D0 (E : Env) (K : Ctx) (o : Oper) (Cx : Nat → Nat) (g : Gh) (w : World) (m : Mem) (B : Nat) : D0 K Cx g w m B ≤ Dk E K o Cx g w m B := by
  unfold D0 Dk; omega

theorem Post.reach {E : Env} {K : Ctx} {o : Oper} {Cx : Nat → Nat} {g g' : Gh} {w w' : World} {tm : Array Value} {fr : Fr} {m : Mem} {r : Out} {y : Value} (h : Post E K o Cx g w tm fr m r y g' w') (hi : HInv K m.h r.m.h) : Reach K Cx g w m g' w' r.m :=
  ⟨h.stp.mono (Dk_D0 E K o Cx g w m), h.old, hi⟩

theorem wanted_sound {g : Gh} {w : World} {fr : Fr} {tm : Array Value} (h : FrRel g w fr tm) {ops : Array Oper} {o : Oper} {b : Bool} (e : wantedV ops fr o = some b) : Region.wanted o (yielded ops tm) = b := by
  unfold wantedV at e
  unfold Region.wanted
  split at e
  · rename_i hg
    simp only [hg]
    simpa using e
  · rename_i j want hg
    simp only [hg]
    unfold yielded
    split at e
    · rename_i hd
      rw [hd]
      simp only [Option.some.injEq] at e
      subst e
      simp
    · rename_i d hd
      rw [hd]
      have hr := h d
      simp only [Option.bind_some]
      have hgd : ∀ y, tm.getD d undef = y → y ≠ undef → tm[d]? = some y := fun y hy hn => by
        rw [Array.getD_eq_getD_getElem?] at hy
        cases hx : tm[d]? with
        | none => rw [hx] at hy; exact absurd hy.symm hn
        | some z => rw [hx] at hy; simp at hy; rw [hy]
      split at e
      · rename_i x hx
        rw [hx] at hr
        have := hgd _ hr.b_inv (by simp [undef])
        rw [this]
        simpa using e
      · rename_i hx
        rw [hx] at hr
        simp only [Option.some.injEq] at e; subst e
        generalize hy : tm.getD d undef = y at hr
        cases hr with
        | nov =>
          rw [Array.getD_eq_getD_getElem?] at hy
          cases hx : tm[d]? with
          | none => simp
          | some z =>
            rw [hx] at hy
            simp only [Option.getD_some] at hy
            rw [hy]
            simp [undef]
      · rename_i k n hx
        rw [hx] at hr
        simp only [Option.some.injEq] at e; subst e
        have := hgd _ hr.i_inv (by simp [undef])
        rw [this]
        simp
      · cases e

/-- what stands behind a piece of code -/
def Fin (Cx : Nat → Nat) (K : Ctx) (g : Gh) (w : World) (m : Mem) (a : Act) (st' : St) (a' : Act) (w' : World) : Prop :=
  ∃ g', Rel Cx g' w' a'.tmps st'.fr st'.m ∧ Reach K Cx g w m g' w' st'.m ∧ a'.tmps.size = a.tmps.size ∧ a'.defers = a.defers

theorem Fin.trans {Cx : Nat → Nat} {K : Ctx} {g g1 : Gh} {w w1 : World} {m m1 : Mem} {a a1 : Act} {st' : St} {a' : Act} {w' : World} (h : Reach K Cx g w m g1 w1 m1) (hs : a1.tmps.size = a.tmps.size) (hd : a1.defers = a.defers)
    (k : Fin Cx K g1 w1 m1 a1 st' a' w') : Fin Cx K g w m a st' a' w' := by
  obtain ⟨g', h1, h2, h3, h4⟩ := k
  exact ⟨g', h1, h.trans h2, h3.trans hs, h4.trans hd⟩

theorem mem_wm3 {E : Env} {o : Oper} (h : clsOf E o ≠ 3) : isStore o = false ∧ writesMem E o = false := by
  constructor
  · cases e : isStore o with
    | false => rfl
    | true =>
      exfalso
      unfold isStore at e
      split at e
      · rename_i ho; exact h (by simp [clsOf, ho])
      · rename_i ho; exact h (by simp [clsOf, ho])
      · cases e
  · cases e : writesMem E o with
    | false => rfl
    | true =>
      exfalso
      unfold writesMem at e
      split at e
      · rename_i ho; exact h (by simp [clsOf, ho])
      · rename_i ho; exact h (by simp [clsOf, ho])
      · rename_i c ho
        split at e
        · cases e
        · cases e
        · rename_i g0 hc
          simp only [decide_eq_true_eq] at e
          exact h (by simp [clsOf, ho, hc]; omega)
        · rename_i h1 h2 h3
          refine h ?_
          unfold clsOf
          rw [ho]
          simp only
      · cases e

section
variable {P : Program} {E : Env} {C : Handler} {K : Ctx} {Cx : Nat → Nat} {f rid : Nat} {ops : Array Oper} {Q : Exit → Act → World → Prop}

theorem CallOk.pure' (hC : CallPure E C) : CallPure E C := hC

theorem evOps_seq (hQ : TabOk P E.Q) (hC : CallOk P E C) (hP : CallPure E C) : ∀ (d k : Nat) (a : Act) (w : World) (g : Gh) (st st' : St), evOps E C K f rid true ops (List.range' k d) st = some st' →
    Rel Cx g w a.tmps st.fr st.m → Wf K st.m.h → IdL E true ops (· < k) g w a.tmps st.fr → (∀ (i : Nat) (o : Oper) (t : Nat), ops[i]? = some o → o.dst = some t → t < a.tmps.size) →
    (∀ a' w', Fin Cx K g w st.m a st' a' w' → Q .normal a' w') → wpOps P ops Q (List.range' k d) a w
  | 0, k, a, w, g, st, st', he, hr, hK, hi, hd, hQn => by
    simp only [List.range'_zero, evOps, Option.some.injEq] at he
    subst he
    simp only [List.range'_zero, wpOps]
    exact hQn a w ⟨g, hr, .refl _ _ _ _ _, rfl, rfl⟩
  | d + 1, k, a, w, g, st, st', he, hr, hK, hi, hd, hQn => by
    simp only [List.range'_succ] at he ⊢
    rw [wpOps_cons]
    simp only [evOps] at he
    unfold wpOp
    split at he
    · cases he
    · rename_i o ho
      simp only [ho]
      have eL : ∀ L, (fun i => i < k ∨ i = k) = L → (fun i => i < k + 1) = L := fun L e => by rw [← e]; funext i; simp only [eq_iff_iff]; omega
      split at he
      · rename_i hw
        rw [wanted_sound hr.frm hw, if_pos rfl]
        simp only [Option.bind_eq_some_iff] at he
        obtain ⟨r, hev, he⟩ := he
        refine .inl ?_
        have hids : Ids P E true (fun _ => True) (ops.toList.take k) st.fr a.tmps w := hi.ids hQ (j := k) (by simp) (fun t i oi _ hoi _ hlt => hlt) (fun t u k' ok _ _ _ _ h => by simp; omega) (fun h => by cases h) (fun _ i h => h)
        have hpi := evOp_inv hP (Nat.le_trans hK.ro hK.base) hev
        refine evOp_sound hQ hC hr hK hids (fun _ _ _ => trivial) hev _ _ fun g' w' y hp h1 h2 => ?_
        have hsz : ∀ t, o.dst = some t → t < a.tmps.size := fun t => hd k o t ho
        have hrel := hp.rel.putO o.dst hsz
        have hstep := hi.step (v := r.v) (y := y) (g' := g') (w' := w') ho (fun i oi t hik _ _ _ => hik) (fun _ i h => h) hp.lost hsz
          (fun ty x z hc h => h.keep hr hp.stp hpi.shp hp.rel.hp.sh hc) (fun s e _ => h1 s e) (fun ty x e _ => by obtain ⟨e1, e2, e3⟩ := h2 ty x e; rw [e1, e2]; exact e3)
        have hre := hp.reach hpi.inv
        rw [← eL _ rfl] at hstep
        refine evOps_seq hQ hC hP d (k + 1) (a.put o.dst y) w' g' _ st' he (by rw [put_tmps]; exact hrel) (hpi.inv.wf hK) (by rw [put_tmps]; exact hstep) (fun i o' t h3 h4 => by rw [put_tmps, putT_size]; exact hd i o' t h3 h4) fun a' w'' hf => ?_
        exact hQn a' w'' (hf.trans hre (by rw [put_tmps, putT_size]) (put_defers _ _ _))
      · rename_i hw
        rw [wanted_sound hr.frm hw]
        simp only [Bool.false_eq_true, if_false]
        have hsz : ∀ t, o.dst = some t → t < a.tmps.size := fun t => hd k o t ho
        have hrel := (RelV.of_rel hr).putO o.dst hsz
        have hstep := hi.step (v := .nov) (y := undef) (g' := g) (w' := w) ho (fun i oi t hik _ _ _ => hik) (fun _ i h => h) (.refl _) hsz
          (fun ty x z hc h => h) (fun s e h => by cases h) (fun ty x e h => by cases h)
        rw [← eL _ rfl] at hstep
        refine evOps_seq hQ hC hP d (k + 1) (a.put o.dst undef) w g _ st' he (by rw [put_tmps]; exact hrel) hK (by rw [put_tmps]; exact hstep) (fun i o' t h3 h4 => by rw [put_tmps, putT_size]; exact hd i o' t h3 h4) fun a' w'' hf => ?_
        exact hQn a' w'' (hf.trans (.refl _ _ _ _ _) (by rw [put_tmps, putT_size]) (put_defers _ _ _))
      · cases he

end
end Go.Wn

namespace Go.Wn
open Go

/-- ghost: a block that no operation has made yet -/
def Gh.later (g : Gh) (h : Heap) (z : ZV) : Gh := { g with ρ := g.ρ ++ [none], sh := shp (h ++ [.var z.1]), z := fun b => if b = h.length then z else g.z b }

section
variable {Cx : Nat → Nat} {g : Gh} {w : World} {tm : Array Value} {fr : Fr} {m : Mem}

theorem Rel.unborn (h : Rel Cx g w tm fr m) (z : ZV) : Rel Cx (g.later m.h z) w tm fr ⟨m.lm, m.h ++ [.var z.1]⟩ ∧ GhLe g (g.later m.h z) := by
  have h0 := GhLe.more (x := .var z.1) (R := none) h.hp.sh h.hp.len
  have hge : GhLe g (g.later m.h z) := ⟨h0.lam, h0.pt, h0.sh, fun b e => ⟨(h0.un b e).1, by
    have := lt_of_get e
    simp only [Gh.later]
    rw [if_neg (by rw [← h.hp.len]; omega)]⟩⟩
  refine ⟨⟨⟨rfl, by simp [Gh.later, h.hp.len], fun b x R hx hR => ?_, fun b hR => ?_, h.hp.new⟩, ⟨h.lm.len, fun b cs R hx hR => ?_⟩, h.frm.mono (g := g) (g' := g.later m.h z) (Fzn.refl _ _) (Shp.refl _) hge.to0 (fun _ _ => ⟨rfl, rfl⟩), fun B => ?_, h.cnew⟩, hge⟩
  · simp only [Gh.later] at hR
    rcases Nat.lt_or_ge b m.h.length with hb | hb
    · rw [List.getElem?_append_left hb] at hx
      rw [List.getElem?_append_left (by rw [h.hp.len]; exact hb)] at hR
      obtain ⟨p1, p2⟩ := h.hp.blk b x R hx hR
      exact ⟨p1, p2.mono (g := g) (g' := g.later m.h z) (Fzn.refl _ _) (Shp.refl _) hge.to0 rfl fun _ _ => rfl⟩
    · have hb' : b = g.ρ.length := by have := lt_of_get hR; simp at this; rw [h.hp.len] at *; omega
      subst hb'
      simp at hR
  · simp only [Gh.later] at hR ⊢
    rcases Nat.lt_or_ge b m.h.length with hb | hb
    · rw [List.getElem?_append_left (by rw [h.hp.len]; exact hb)] at hR
      rw [List.getElem?_append_left hb, if_neg (by omega)]
      exact h.hp.un b hR
    · have hb' : b = m.h.length := by have := lt_of_get hR; simp at this; rw [h.hp.len] at *; omega
      subst hb'
      simp
  · obtain ⟨p1, p2⟩ := h.lm.box b cs R hx hR
    exact ⟨p1, p2.mono (g := g) (g' := g.later m.h z) (Fzn.refl _ _) (Shp.refl _) hge.to0 rfl fun _ _ => rfl⟩
  · have := h.one B
    simp only [Gh.later]
    rw [hcnt_snoc h.hp.len]
    omega

/-- a block is made -/
def Gh.born (g : Gh) (b R : Nat) : Gh := { g with ρ := g.ρ.set b (some R) }

theorem Gh.born0 {g : Gh} {b R : Nat} (hb : g.ρ[b]? = some none) : GhLe0 g (g.born b R) where
  lam := fun _ _ e => e
  pt := fun c B e1 e2 => by
    refine ⟨e1, ?_⟩
    simp only [Gh.born]
    rw [List.getElem?_set_ne (fun e => by subst e; rw [hb] at e2; cases e2)]; exact e2
  sh := fun c sz n e => ⟨n, e, Nat.le_refl _, fun _ B e2 => by
    simp only [Gh.born]
    rw [List.getElem?_set_ne (fun e => by subst e; rw [hb] at e2; cases e2)]; exact e2⟩

theorem Rel.born (h : Rel Cx g w tm fr m) {b : Nat} (hb : g.ρ[b]? = some none) {ys : Array Value} {T : TypeId} (hl : ys.size = (g.z b).1.length)
    (hz : ∀ (g' : Gh) (w' : World) (j : Nat) (c : V), (g.z b).1[j]? = some c → RepV g' w' c (ys.getD j undef)) (hp : ∀ B, pmL B (g.z b).1 ys 0 = 0) :
    RelV Cx (g.born b w.heap.size) (w.alloc (.cells ys T)) tm fr m (.ptr b 0) (.pointer (some ⟨w.heap.size, 0, none⟩)) := by
  have hv := RelV.of_rel h
  have hge : GhLe0 g (g.born b w.heap.size) := Gh.born0 hb
  have st : Stp (fun B => fcnt B fr tm + lcnt B w m.lm g.lam + hcnt B w m.h g.ρ + pm B .nov undef + Cx B) g w g (w.alloc (.cells ys T)) :=
    Stp.alloc _ (fun B _ => rfl) (.refl g) fun B hB => hv.cnt_lt hB
  have k2 : Kp (fun B => lcnt B w m.lm g.lam) w (w.alloc (.cells ys T)) g.X g.X := (st.mono fun B => by omega).kp
  have k3 : Kp (fun B => hcnt B w m.h g.ρ) w (w.alloc (.cells ys T)) g.X g.X := (st.mono fun B => by omega).kp
  have hx0 : g.X w.heap.size = 0 := h.hp.new _ (Nat.le_refl _)
  have hblk := h.hp.un b hb
  have hblt : b < m.h.length := lt_of_get hblk
  refine ⟨⟨h.hp.sh, by simp [Gh.born, h.hp.len], fun c x R hx hR => ?_, fun c hR => ?_, fun B hB => h.hp.new B (by simp at hB; omega)⟩,
    ⟨h.lm.len, fun c cs R hx' hR => ?_⟩, h.frm.mono (g' := g.born b w.heap.size) st.fz st.sh hge (st.mono fun B => by omega).kp, fun B => ?_, fun B hB => h.cnew B (by simp at hB; omega), ?_⟩
  · simp only [Gh.born] at hR
    by_cases e : b = c
    · subst e
      rw [List.getElem?_set] at hR
      simp only [if_true] at hR
      split at hR
      · simp only [Option.some.injEq] at hR
        subst hR
        rw [hblk] at hx
        simp only [Option.some.injEq] at hx
        subst hx
        exact ⟨hx0, ys, T, heap_alloc_at w _, hl, fun j c hj => hz _ _ j c hj⟩
      · cases hR
    · rw [List.getElem?_set_ne e] at hR
      obtain ⟨p1, p2⟩ := h.hp.blk c x R hx hR
      exact ⟨p1, p2.mono (g' := g.born b w.heap.size) st.fz st.sh hge (heap_alloc_lt w _ p2.lt) fun B hB => rfl⟩
  · simp only [Gh.born] at hR ⊢
    by_cases e : b = c
    · subst e
      rw [List.getElem?_set] at hR
      simp only [if_true] at hR
      split at hR <;> cases hR
    · rw [List.getElem?_set_ne e] at hR
      exact h.hp.un c hR
  · obtain ⟨p1, p2⟩ := h.lm.box c cs R hx' hR
    exact ⟨p1, p2.mono (g' := g.born b w.heap.size) st.fz st.sh hge (heap_alloc_lt w _ p2.lt) fun B hB => rfl⟩
  · have h1 := h.one B
    have e0 : hcnt B (w.alloc (.cells ys T)) m.h (g.ρ.set b (some w.heap.size)) = hcnt B (w.alloc (.cells ys T)) m.h g.ρ + (if w.heap.size = B then 1 else 0) := by
      unfold hcnt
      have h2 := Sm_upd (n := m.h.length) (d := b) (f := hterm B (w.alloc (.cells ys T)) m.h g.ρ) (f' := hterm B (w.alloc (.cells ys T)) m.h (g.ρ.set b (some w.heap.size))) hblt (fun i hi => by
        unfold hterm
        rw [getD_set_ne (by omega)])
      have h3 : hterm B (w.alloc (.cells ys T)) m.h g.ρ b = 0 := by
        unfold hterm
        simp [List.getD, hb]
      have h4 : hterm B (w.alloc (.cells ys T)) m.h (g.ρ.set b (some w.heap.size)) b = (if w.heap.size = B then 1 else 0) := by
        unfold hterm
        rw [getD_set_at (by rw [h.hp.len]; exact hblt)]
        simp only
        have : m.h.getD b default = .var (g.z b).1 := by simp [List.getD, hblk]
        rw [this]
        simp only [bcnt, conc_new, hp, Nat.add_zero]
      omega
    show fcnt B fr tm + lcnt B (w.alloc (.cells ys T)) m.lm g.lam + hcnt B (w.alloc (.cells ys T)) m.h (g.ρ.set b (some w.heap.size)) + pm B (.ptr b 0) _ + Cx B ≤ 1
    rw [e0, HeapRel.cnt_keep k3 B, LmRel.cnt_keep k2 B, pm_noown B (.ptr b 0) _ rfl]
    by_cases e : w.heap.size = B
    · subst e
      have := hv.cnt_lt (Nat.le_refl w.heap.size)
      simp only [if_true]
      omega
    · simp only [e, if_false]; omega
  · refine .ptr b 0 _ ?_ (by simp [Gh.born, h.hp.len, hblt])
    show g.sh b = none
    rw [h.hp.sh]
    simp [shp, hblk]

theorem Stp.born {D : Nat → Nat} {g0 : Gh} {w0 : World} (st : Stp D g0 w0 g w) {b : Nat} (hb : g.ρ[b]? = some none) (hb0 : g0.ρ.length ≤ b) (o : Obj) (hD : ∀ B, w0.heap.size ≤ B → D B = 0) :
    Stp D g0 w0 (g.born b w.heap.size) (w.alloc o) where
  fz := st.fz.trans (Stp.alloc (D := fun _ => 0) o (fun _ _ => rfl) (.refl g) fun _ _ => rfl).fz
  sh := st.sh.trans (Stp.alloc (D := fun _ => 0) (g := g) (g' := g) o (fun _ _ => rfl) (.refl g) fun _ _ => rfl).sh
  kp := fun B hB => by
    have hlt : B < w0.heap.size := by
      rcases Nat.lt_or_ge B w0.heap.size with h | h
      · exact h
      · have := hD B h; omega
    obtain ⟨k1, k2⟩ := st.kp B hB
    exact ⟨by rw [heap_alloc_lt w o (Nat.lt_of_lt_of_le hlt st.size)]; exact k1, k2⟩
  ge := by
    have h0 := Gh.born0 (R := w.heap.size) hb
    refine ⟨fun c B e => h0.lam c B (st.ge.lam c B e), fun c B e1 e2 => h0.pt c B (st.ge.pt c B e1 e2).1 (st.ge.pt c B e1 e2).2, fun c sz n e => ?_, fun c e => ?_⟩
    · obtain ⟨n', p1, p2, p3⟩ := st.ge.sh c sz n e
      obtain ⟨n2, q1, q2, q3⟩ := h0.sh c sz n' p1
      exact ⟨n2, q1, Nat.le_trans p2 q2, fun hn B hB => q3 (by omega) B (p3 (by omega) B hB)⟩
    · obtain ⟨p1, p2⟩ := st.ge.un c e
      refine ⟨?_, p2⟩
      simp only [Gh.born]
      rw [List.getElem?_set_ne (by have := lt_of_get e; omega)]; exact p1
  os := st.os
  tape := st.tape
  output := st.output
  size := by have := st.size; simp; omega

/-- zero values of a variable -/
theorem zero_cells {Q : Tab} {nf : Bool} {t : TypeId} {z : List V} (hz : zeroCells Q nf t = some z) :
    ∃ zv, Q.zero t = some zv ∧ zv.cells.size = z.length ∧ (∀ (g' : Gh) (w' : World) (j : Nat) (c : V), z[j]? = some c → RepV g' w' c (zv.cells.getD j undef)) ∧ ∀ B, pmL B z zv.cells 0 = 0 := by
  unfold zeroCells at hz
  split at hz
  · rename_i zv hq
    simp only [Option.some.injEq] at hz
    subst hz
    refine ⟨zv, hq, by simp, fun g' w' j c hj => ?_, fun B => ?_⟩
    · simp only [List.getElem?_map, Array.getElem?_toList, Option.map_eq_some_iff] at hj
      obtain ⟨d, hd, rfl⟩ := hj
      have : zv.cells.getD j undef = d := by simp [Array.getD_eq_getD_getElem?, hd]
      rw [this]
      exact rep_constCell g' w' nf d
    · have keyL : ∀ (l : List Value) (ys : Array Value) (k : Nat), pmL B (l.map (constCell nf)) ys k = 0 := by
        intro l
        induction l with
        | nil => intro ys k; rfl
        | cons a l ih => intro ys k; simp only [List.map_cons, pmL]; rw [hasOwn_constCell, ih]
      exact keyL _ _ _
  · cases hz

end
end Go.Wn
