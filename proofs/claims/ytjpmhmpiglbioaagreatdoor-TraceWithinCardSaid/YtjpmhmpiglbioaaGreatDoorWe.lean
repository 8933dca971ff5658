/- Part of the proof: an evaluator of the model's code over pure trees, and what it computes. No condition of its own. -/
import Derived.Test.YtjpmhmpiglbioaaGreatDoorWa
import Derived.Test.YtjpmhmpiglbioaaGreatDoorWd
set_option linter.unusedSimpArgs false
set_option linter.unusedVariables false
namespace Go.Wn
open Go

mutual
theorem PV.beq_eq : ∀ (x y : PV), PV.beq x y = true → x = y
  | .b x, y, h => by cases y <;> simp [PV.beq] at h <;> simp [h]
  | .i k x, y, h => by cases y <;> simp [PV.beq] at h <;> simp [h]
  | .s x, y, h => by cases y <;> simp [PV.beq] at h <;> simp [h]
  | .agg x, y, h => by
    cases y <;> simp [PV.beq] at h
    rw [PV.beqL_eq _ _ h]
  | .lst x, y, h => by
    cases y <;> simp [PV.beq] at h
    rw [PV.beqL_eq _ _ h]
  | .nils, y, h => by cases y <;> simp [PV.beq] at h <;> rfl
  | .ref x m, y, h => by
    cases y <;> simp [PV.beq] at h
    rw [PV.beqL_eq _ _ h.2, h.1]
  | .mp x z, y, h => by
    cases y <;> simp [PV.beq] at h
    rw [PV.beqL_eq _ _ h.1, PV.beqL_eq _ _ h.2]
  | .c x, y, h => by
    cases y <;> unfold PV.beq at h <;> split at h <;> simp_all
theorem PV.beqL_eq : ∀ (x y : List PV), PV.beqL x y = true → x = y
  | [], y, h => by cases y <;> simp [PV.beqL] at h; rfl
  | x :: xs, y, h => by
    cases y <;> simp [PV.beqL] at h
    rw [PV.beq_eq _ _ h.1, PV.beqL_eq _ _ h.2]
end

mutual
theorem V.beq_eq : ∀ (x y : V), V.beq x y = true → x = y
  | .p x, y, h => by
    cases y <;> simp [V.beq] at h
    rw [PV.beq_eq _ _ h]
  | .own x, y, h => by
    cases y <;> simp [V.beq] at h
    rw [PV.beqL_eq _ _ h]
  | .agg x, y, h => by
    cases y <;> simp [V.beq] at h
    rw [V.beqL_eq _ _ h]
  | .tup x, y, h => by
    cases y <;> simp [V.beq] at h
    rw [V.beqL_eq _ _ h]
  | .lptr _ _, y, h => by cases y <;> simp [V.beq] at h <;> simp [h]
  | .ptr _ _, y, h => by cases y <;> simp [V.beq] at h <;> simp [h]
  | .aptr _ _ _ _, y, h => by cases y <;> simp [V.beq] at h <;> simp [h]
  | .sl _ _ _ _, y, h => by cases y <;> simp [V.beq] at h <;> simp [h]
  | .mp _, y, h => by cases y <;> simp [V.beq] at h <;> simp [h]
  | .clo f a b, y, h => by
    cases y <;> simp [V.beq] at h
    rw [V.beqL_eq _ _ h.1.2, V.beqL_eq _ _ h.2, h.1.1]
  | .ifc _ _, y, h => by cases y <;> simp [V.beq] at h
  | .und, y, h => by cases y <;> simp [V.beq] at h
  | .nov, y, h => by cases y <;> simp [V.beq] at h <;> rfl
theorem V.beqL_eq : ∀ (x y : List V), V.beqL x y = true → x = y
  | [], y, h => by cases y <;> simp [V.beqL] at h; rfl
  | x :: xs, y, h => by
    cases y <;> simp [V.beqL] at h
    rw [V.beq_eq _ _ h.1, V.beqL_eq _ _ h.2]
end

theorem bits_of (acc : Array Nat) (i : Nat) : ∀ (l : List Edge) (s : Nat), (l.foldl (fun s e => if Region.binds .any e then s ||| 2 ^ e.on ||| acc.getD e.on 0 else s) s).testBit i = true →
    s.testBit i = true ∨ ∃ e ∈ l, Region.binds .any e = true ∧ (e.on = i ∨ (acc.getD e.on 0).testBit i = true)
  | [], s, h => .inl h
  | e :: l, s, h => by
    rw [List.foldl_cons] at h
    rcases bits_of acc i l _ h with h | ⟨e', he', h⟩
    · split at h
      · rename_i hbd
        rw [Nat.testBit_or, Nat.testBit_or, Bool.or_eq_true, Bool.or_eq_true, Nat.testBit_two_pow] at h
        rcases h with (h | h) | h
        · exact .inl h
        · exact .inr ⟨e, by simp, hbd, .inl (by simpa using h)⟩
        · exact .inr ⟨e, by simp, hbd, .inr h⟩
      · exact .inl h
    · exact .inr ⟨e', by simp [he'], h⟩

theorem before_inv : ∀ (l : List Oper) (acc : Array Nat) (dn : List Oper), acc.size = dn.length → (∀ j i, (acc.getD j 0).testBit i = true → ∃ o, dn[j]? = some o ∧ ∃ e ∈ o.after.toList, Region.binds .any e = true ∧ (e.on = i ∨ (acc.getD e.on 0).testBit i = true)) →
    let r := l.foldl (fun (acc : Array Nat) (o : Oper) => acc.push (o.after.foldl (fun s e => if Region.binds .any e then s ||| 2 ^ e.on ||| acc.getD e.on 0 else s) 0)) acc
    ∀ j i, (r.getD j 0).testBit i = true → ∃ o, (dn ++ l)[j]? = some o ∧ ∃ e ∈ o.after.toList, Region.binds .any e = true ∧ (e.on = i ∨ (r.getD e.on 0).testBit i = true)
  | [], acc, dn, hs, h => by simpa using h
  | o :: l, acc, dn, hs, h => by
    rw [List.foldl_cons]
    have key := before_inv l (acc.push (o.after.foldl (fun s e => if Region.binds .any e then s ||| 2 ^ e.on ||| acc.getD e.on 0 else s) 0)) (dn ++ [o]) (by simp [hs]) ?_
    · simpa using key
    · intro j i hb
      have up : ∀ k i, (acc.getD k 0).testBit i = true → ((acc.push (o.after.foldl (fun s e => if Region.binds .any e then s ||| 2 ^ e.on ||| acc.getD e.on 0 else s) 0)).getD k 0).testBit i = true := fun k i hk => by
        have hlt : k < acc.size := by
          rcases Nat.lt_or_ge k acc.size with h | h
          · exact h
          · rw [Array.getD_eq_getD_getElem?, Array.getElem?_eq_none h] at hk; simp at hk
        rw [Array.getD_eq_getD_getElem?, Array.getElem?_push_lt hlt]
        rw [Array.getD_eq_getD_getElem?, Array.getElem?_eq_getElem hlt] at hk
        exact hk
      rcases Nat.lt_trichotomy j acc.size with hlt | heq | hgt
      · rw [Array.getD_eq_getD_getElem?, Array.getElem?_push_lt hlt] at hb
        obtain ⟨o', h1, e, h2, h4, h3⟩ := h j i (by rw [Array.getD_eq_getD_getElem?, Array.getElem?_eq_getElem hlt]; exact hb)
        exact ⟨o', by rw [List.getElem?_append_left (by omega)]; exact h1, e, h2, h4, h3.imp id (up e.on i)⟩
      · subst heq
        rw [Array.getD_eq_getD_getElem?, Array.getElem?_push_size, Option.getD_some, ← Array.foldl_toList] at hb
        rcases bits_of acc i o.after.toList 0 hb with h0 | ⟨e, h1, h3, h2⟩
        · simp at h0
        · exact ⟨o, by rw [hs]; simp, e, h1, h3, h2.imp id (up e.on i)⟩
      · rw [Array.getD_eq_getD_getElem?, Array.getElem?_eq_none (by simp; omega)] at hb
        simp at hb

theorem before_spec {ops : Array Oper} {j i : Nat} (h : ordB (Region.before ops) i j = true) : ∃ o, ops[j]? = some o ∧ ∃ e ∈ o.after.toList, Region.binds .any e = true ∧ (e.on = i ∨ ordB (Region.before ops) i e.on = true) := by
  unfold ordB at h ⊢
  have h1 : Region.before ops = ops.toList.foldl (fun (acc : Array Nat) (o : Oper) => acc.push (o.after.foldl (fun s e => if Region.binds .any e then s ||| 2 ^ e.on ||| acc.getD e.on 0 else s) 0)) #[] := by
    unfold Region.before
    rw [← Array.foldl_toList]
  have h2 := before_inv ops.toList #[] [] rfl (fun j i hb => by simp at hb)
  rw [← h1] at h2
  obtain ⟨o, p1, p2⟩ := h2 j i h
  exact ⟨o, by simpa using p1, p2⟩

theorem edgesOk_spec {ops : Array Oper} (h : edgesOk ops = true) {j : Nat} {o : Oper} (ho : ops[j]? = some o) {e : Edge} (he : e ∈ o.after.toList) (hb : Region.binds .any e = true) : e.on < j := by
  unfold edgesOk at h
  rw [Bool.and_eq_true, List.all_eq_true] at h
  have h1 := h.1 (o, j) (by rw [List.mem_zipIdx_iff_getElem?]; simpa using ho)
  rw [List.all_eq_true] at h1
  have := h1 e he
  simpa [hb] using this

def Down (ops : Array Oper) (L : Nat → Prop) : Prop := ∀ (j : Nat) (o : Oper), L j → ops[j]? = some o → ∀ e ∈ o.after.toList, Region.binds .any e = true → L e.on

theorem ord_in {ops : Array Oper} {L : Nat → Prop} (hE : edgesOk ops = true) (hD : Down ops L) : ∀ (j i : Nat), (∀ o, ops[j]? = some o → ∀ e ∈ o.after.toList, Region.binds .any e = true → L e.on) → ordB (Region.before ops) i j = true → L i := by
  intro j
  induction j using Nat.strongRecOn with
  | _ j ih =>
    intro i hj h
    obtain ⟨o, ho, e, he, hb, h1⟩ := before_spec h
    rcases h1 with rfl | h1
    · exact hj o ho e he hb
    · exact ih e.on (edgesOk_spec hE ho he hb) i (fun o' ho' => hD e.on o' (hj o ho e he hb) ho') h1

section
variable (E : Env) (C : Handler) (K : Ctx) (f rid : Nat) (ops : Array Oper)

/-- one operation of the region, in the order of the text -/
def DStep (i : Nat) (s s' : St) : Prop := ∃ o, ops[i]? = some o ∧
   ((isAlloc o = true ∧ s' = s) ∨
    (isAlloc o = false ∧ wantedV ops s.fr o = some false ∧ s' = ⟨putF s.fr o.dst .nov, s.m⟩) ∨
    (isAlloc o = false ∧ wantedV ops s.fr o = some true ∧ ∃ r, evOp E C K f rid false (ops.toList.take i) o s.fr s.m = some r ∧ (clsOf E o ≠ 3 → r.m.h.length = s.m.h.length) ∧
      s' = ⟨putF r.fr o.dst r.v, if clsOf E o = 3 then r.m else s.m⟩))

def Same (i : Nat) (o : Oper) (fr : Fr) (m : Mem) (v : V) : Prop := ∃ r', evOp E C K f rid false (ops.toList.take i) o fr m = some r' ∧ r'.v = v

def Does (i : Nat) (s : St) (o : Oper) (r : Out) : Prop := ops[i]? = some o ∧ isAlloc o = false ∧ wantedV ops s.fr o = some true ∧ evOp E C K f rid false (ops.toList.take i) o s.fr s.m = some r

structure DRun (k d : Nat) (dn : List (Nat × Oper × Fr × V)) (hist : List (Nat × Mem)) (st st' : St) (T : Nat → St) : Prop where
  first : T k = st
  last : T (k + d) = st'
  step : ∀ i, k ≤ i → i < k + d → DStep E C K f rid ops i (T i) (T (i + 1))
  hist : ∀ i o r, k ≤ i → i < k + d → Does E C K f rid ops i (T i) o r → clsOf E o = 1 → ∀ x ∈ hist, ordB (Region.before ops) x.1 i = true ∨ Same E C K f rid ops i o (T i).fr x.2 r.v
  dn : ∀ i o r, k ≤ i → i < k + d → Does E C K f rid ops i (T i) o r → clsOf E o = 3 → ∀ x ∈ dn, ordB (Region.before ops) x.1 i = true ∨ Same E C K f rid ops x.1 x.2.1 x.2.2.1 (T (i + 1)).m x.2.2.2
  re1 : ∀ i o r, k ≤ i → i < k + d → Does E C K f rid ops i (T i) o r → clsOf E o = 1 → ∀ j oj rj, k ≤ j → j < i → Does E C K f rid ops j (T j) oj rj → clsOf E oj = 3 → ordB (Region.before ops) j i = true ∨ Same E C K f rid ops i o (T i).fr (T j).m r.v
  re3 : ∀ i o r, k ≤ i → i < k + d → Does E C K f rid ops i (T i) o r → clsOf E o = 3 → ∀ j oj rj, k ≤ j → j < i → Does E C K f rid ops j (T j) oj rj → clsOf E oj = 1 → ordB (Region.before ops) j i = true ∨ Same E C K f rid ops j oj (T j).fr (T (i + 1)).m rj.v
end

theorem Does.uniq {E : Env} {C : Handler} {K : Ctx} {f rid : Nat} {ops : Array Oper} {i : Nat} {s : St} {o o' : Oper} {r r' : Out} (h : Does E C K f rid ops i s o r) (k : Does E C K f rid ops i s o' r') : o' = o ∧ r' = r := by
  obtain ⟨h1, _, _, h4⟩ := h
  obtain ⟨k1, _, _, k4⟩ := k
  rw [h1] at k1
  simp only [Option.some.injEq] at k1
  subst k1
  rw [h4] at k4
  simp only [Option.some.injEq] at k4
  exact ⟨rfl, k4.symm⟩

/-- one step ahead of a run -/
theorem DRun.cons {E : Env} {C : Handler} {K : Ctx} {f rid : Nat} {ops : Array Oper} {k d : Nat} {dn dn' : List (Nat × Oper × Fr × V)} {hist hist' : List (Nat × Mem)} {st s1 st' : St} {T : Nat → St}
    (h : DRun E C K f rid ops (k + 1) d dn' hist' s1 st' T) (hs : DStep E C K f rid ops k st s1) (hd : ∀ x ∈ dn, x ∈ dn') (hh : ∀ x ∈ hist, x ∈ hist')
    (h1 : ∀ o r, Does E C K f rid ops k st o r → clsOf E o = 1 → (k, o, st.fr, r.v) ∈ dn' ∧ ∀ x ∈ hist, ordB (Region.before ops) x.1 k = true ∨ Same E C K f rid ops k o st.fr x.2 r.v)
    (h3 : ∀ o r, Does E C K f rid ops k st o r → clsOf E o = 3 → (k, st.m) ∈ hist' ∧ ∀ x ∈ dn, ordB (Region.before ops) x.1 k = true ∨ Same E C K f rid ops x.1 x.2.1 x.2.2.1 s1.m x.2.2.2) :
    DRun E C K f rid ops k (d + 1) dn hist st st' (fun i => if i = k then st else T i) := by
  have hT : ∀ i, k + 1 ≤ i → (if i = k then st else T i) = T i := fun i hi => by rw [if_neg (by omega)]
  have hT1 : (if k + 1 = k then st else T (k + 1)) = s1 := by rw [if_neg (by omega)]; exact h.first
  refine ⟨by simp, ?_, fun i hi hlt => ?_, fun i o r hi hlt hdo hc x hx => ?_, fun i o r hi hlt hdo hc x hx => ?_, fun i o r hi hlt hdo hc j oj rj hj hji hdj hcj => ?_, fun i o r hi hlt hdo hc j oj rj hj hji hdj hcj => ?_⟩
  · rw [hT _ (by omega), show k + (d + 1) = k + 1 + d from by omega]; exact h.last
  · by_cases e : i = k
    · subst e; simp only [if_true]; rw [hT1]; exact hs
    · rw [hT i (by omega), hT (i + 1) (by omega)]; exact h.step i (by omega) (by omega)
  · by_cases e : i = k
    · subst e; simp only [if_true] at hdo ⊢; exact (h1 o r hdo hc).2 x hx
    · rw [hT i (by omega)] at hdo ⊢; exact h.hist i o r (by omega) (by omega) hdo hc x (hh x hx)
  · by_cases e : i = k
    · subst e; simp only [if_true] at hdo; rw [hT1]; exact (h3 o r hdo hc).2 x hx
    · rw [hT i (by omega)] at hdo; rw [hT (i + 1) (by omega)]; exact h.dn i o r (by omega) (by omega) hdo hc x (hd x hx)
  · rw [hT i (by omega)] at hdo ⊢
    by_cases e : j = k
    · subst e
      simp only [if_true] at hdj ⊢
      exact h.hist i o r (by omega) (by omega) hdo hc _ (h3 oj rj hdj hcj).1
    · rw [hT j (by omega)] at hdj ⊢
      exact h.re1 i o r (by omega) (by omega) hdo hc j oj rj (by omega) hji hdj hcj
  · rw [hT i (by omega)] at hdo
    rw [hT (i + 1) (by omega)]
    by_cases e : j = k
    · subst e
      simp only [if_true] at hdj ⊢
      exact h.dn i o r (by omega) (by omega) hdo hc _ (h1 oj rj hdj hcj).1
    · rw [hT j (by omega)] at hdj ⊢
      exact h.re3 i o r (by omega) (by omega) hdo hc j oj rj (by omega) hji hdj hcj

theorem same_of {E : Env} {C : Handler} {K : Ctx} {f rid : Nat} {ops : Array Oper} {i : Nat} {o : Oper} {fr : Fr} {m : Mem} {v : V}
    (h : (match evOp E C K f rid false (ops.toList.take i) o fr m with | some r' => V.beq r'.v v | none => false) = true) : Same E C K f rid ops i o fr m v := by
  split at h
  · rename_i r' hr
    exact ⟨r', hr, V.beq_eq _ _ h⟩
  · cases h

theorem evDraw_run {E : Env} {C : Handler} {K : Ctx} {f rid : Nat} {ops : Array Oper} : ∀ (d k : Nat) (dn : List (Nat × Oper × Fr × V)) (hist : List (Nat × Mem)) (st st' : St),
    evDrawOps E C K f rid ops (Region.before ops) (List.range' k d) dn hist st = some st' → ∃ T, DRun E C K f rid ops k d dn hist st st' T
  | 0, k, dn, hist, st, st', h => by
    simp only [List.range'_zero, evDrawOps, Option.some.injEq] at h
    subst h
    exact ⟨fun _ => st, rfl, rfl, fun i _ _ => by omega, fun i _ _ _ _ => by omega, fun i _ _ _ _ => by omega, fun i _ _ _ _ => by omega, fun i _ _ _ _ => by omega⟩
  | d + 1, k, dn, hist, st, st', h => by
    simp only [List.range'_succ, evDrawOps] at h
    split at h
    · cases h
    · rename_i o ho
      split at h
      · rename_i hal
        obtain ⟨T, hT⟩ := evDraw_run d (k + 1) dn hist st st' h
        refine ⟨_, hT.cons ⟨o, ho, .inl ⟨hal, rfl⟩⟩ (fun _ h => h) (fun _ h => h) (fun o' r hd _ => ?_) fun o' r hd _ => ?_⟩
        · obtain ⟨e1, e2, _, _⟩ := hd
          rw [ho] at e1; simp only [Option.some.injEq] at e1; subst e1
          rw [hal] at e2; cases e2
        · obtain ⟨e1, e2, _, _⟩ := hd
          rw [ho] at e1; simp only [Option.some.injEq] at e1; subst e1
          rw [hal] at e2; cases e2
      · rename_i hal
        have hal' : isAlloc o = false := by simpa using hal
        split at h
        · rename_i hw
          simp only [Option.bind_eq_some_iff] at h
          obtain ⟨r, hev, h⟩ := h
          have hdo : Does E C K f rid ops k st o r := ⟨ho, hal', hw, hev⟩
          split at h
          · cases h
          · rename_i hlen
            have hlen' : clsOf E o ≠ 3 → r.m.h.length = st.m.h.length := fun h3 => by
              have : (clsOf E o != 3) = true := by simpa using h3
              simpa [this] using hlen
            have hst : ∀ s1 : St, s1 = ⟨putF r.fr o.dst r.v, if clsOf E o = 3 then r.m else st.m⟩ → DStep E C K f rid ops k st s1 := fun s1 e => ⟨o, ho, .inr (.inr ⟨hal', hw, r, hev, hlen', e⟩)⟩
            split at h
            · rename_i hc1
              split at h
              · rename_i hchk
                rw [List.all_eq_true] at hchk
                obtain ⟨T, hT⟩ := evDraw_run d (k + 1) _ _ _ st' h
                refine ⟨_, hT.cons (hst _ rfl) (fun _ h => by simp [h]) (fun _ h => h) (fun o' r' hd hc => ?_) fun o' r' hd hc => ?_⟩
                · obtain ⟨rfl, rfl⟩ := hdo.uniq hd
                  refine ⟨by simp, fun x hx => ?_⟩
                  have := hchk x hx
                  rw [Bool.or_eq_true] at this
                  exact this.imp id same_of
                · obtain ⟨rfl, rfl⟩ := hdo.uniq hd
                  omega
              · cases h
            · rename_i hc1
              split at h
              · rename_i hc3
                split at h
                · rename_i hchk
                  rw [List.all_eq_true] at hchk
                  obtain ⟨T, hT⟩ := evDraw_run d (k + 1) _ _ _ st' h
                  refine ⟨_, hT.cons (hst _ (by rw [if_pos hc3])) (fun _ h => h) (fun _ h => by simp [h]) (fun o' r' hd hc => ?_) fun o' r' hd hc => ?_⟩
                  · obtain ⟨rfl, rfl⟩ := hdo.uniq hd
                    omega
                  · obtain ⟨rfl, rfl⟩ := hdo.uniq hd
                    refine ⟨by simp, fun x hx => ?_⟩
                    have := hchk x hx
                    rw [Bool.or_eq_true] at this
                    exact this.imp id same_of
                · cases h
              · rename_i hc3
                obtain ⟨T, hT⟩ := evDraw_run d (k + 1) _ _ _ st' h
                refine ⟨_, hT.cons (hst _ (by rw [if_neg hc3])) (fun _ h => h) (fun _ h => h) (fun o' r' hd hc => ?_) fun o' r' hd hc => ?_⟩
                · obtain ⟨rfl, rfl⟩ := hdo.uniq hd
                  exact absurd hc hc1
                · obtain ⟨rfl, rfl⟩ := hdo.uniq hd
                  exact absurd hc hc3
        · rename_i hw
          obtain ⟨T, hT⟩ := evDraw_run d (k + 1) dn hist _ st' h
          refine ⟨_, hT.cons ⟨o, ho, .inr (.inl ⟨hal', hw, rfl⟩)⟩ (fun _ h => h) (fun _ h => h) (fun o' r hd _ => ?_) fun o' r hd _ => ?_⟩
          · obtain ⟨e1, _, e2, _⟩ := hd
            rw [ho] at e1; simp only [Option.some.injEq] at e1; subst e1
            rw [hw] at e2; cases e2
          · obtain ⟨e1, _, e2, _⟩ := hd
            rw [ho] at e1; simp only [Option.some.injEq] at e1; subst e1
            rw [hw] at e2; cases e2
        · cases h

end Go.Wn

namespace Go.Wn
open Go

theorem zip_mem {ops : Array Oper} {i : Nat} {o : Oper} (h : ops[i]? = some o) : (o, i) ∈ ops.toList.zipIdx := by
  rw [List.mem_zipIdx_iff_getElem?]; simpa using h

section
variable {E : Env} {ops : Array Oper}

theorem namesOk_spec {b : Array Nat} (h : namesOk ops b = true) {j i t : Nat} {o u : Oper} (ho : ops[j]? = some o) (ht : t ∈ namesOf ops o) (hu : ops[i]? = some u) (hd : u.dst = some t) (hne : i ≠ j) : ordI b i j = true := by
  unfold namesOk at h
  rw [List.all_eq_true] at h
  have h1 := h (o, j) (zip_mem ho)
  simp only [List.all_eq_true] at h1
  have h2 := h1 t ht (u, i) (zip_mem hu)
  simp only [hd, bne_self_eq_false, Bool.false_or, Bool.or_eq_true, beq_iff_eq] at h2
  exact h2.resolve_left hne

theorem extraOk_spec {b : Array Nat} (h : extraOk E ops b = true) {j i t : Nat} {o u : Oper} {x : Operand} (ho : ops[j]? = some o) (hc : clsOf E o = 3) (hx : x ∈ o.op.operands.toList) (ht : t ∈ extraOf (ops.toList.take j) x)
    (hu : ops[i]? = some u) (hd : u.dst = some t) (hne : i ≠ j) : clsOf E u = 3 ∨ ordI b i j = true := by
  unfold extraOk at h
  rw [List.all_eq_true] at h
  have h1 := h (o, j) (zip_mem ho)
  simp only [hc, bne_self_eq_false, Bool.false_or, List.all_eq_true] at h1
  have h2 := h1 t (List.mem_flatMap.2 ⟨x, hx, ht⟩) (u, i) (zip_mem hu)
  simp only [hd, bne_self_eq_false, Bool.false_or, Bool.or_eq_true, beq_iff_eq] at h2
  rcases h2 with (h2 | h2) | h2
  · exact absurd h2 hne
  · exact .inl h2
  · exact .inr h2

structure DOk (E : Env) (ops : Array Oper) : Prop where
  names : namesOk ops (Region.before ops) = true
  extra : extraOk E ops (Region.before ops) = true
  edges : edgesOk ops = true
  pair : ∀ (i j : Nat) (u o : Oper), i < j → ops[i]? = some u → ops[j]? = some o → (clsOf E u = 3 ∧ (clsOf E o = 3 ∨ clsOf E o = 2)) ∨ (clsOf E u = 2 ∧ clsOf E o = 3) → ordB (Region.before ops) i j = true
  al : ∀ (i : Nat) (o : Oper), ops[i]? = some o → clsOf E o = 4 → o.guard = none ∧ ∀ j, ordB (Region.before ops) j i = false

theorem DOk.of (h : drawOk E ops = true) : DOk E ops := by
  unfold drawOk at h
  simp only [Bool.and_eq_true] at h
  obtain ⟨⟨⟨⟨h1, h2⟩, h3⟩, h4⟩, h5⟩ := h
  refine ⟨h1, h2, h3, fun i j u o hij hu ho hc => ?_, fun i o ho hc => ?_⟩
  · rw [List.all_eq_true] at h4
    have hj : j < ops.size := (Array.getElem?_eq_some_iff.1 ho).1
    have h6 := h4 j (List.mem_range.2 hj)
    rw [List.all_eq_true] at h6
    have h7 := h6 i (List.mem_range.2 hij)
    have e1 : (ops.map (clsOf E)).getD i 3 = clsOf E u := by simp [Array.getD_eq_getD_getElem?, hu]
    have e2 : (ops.map (clsOf E)).getD j 3 = clsOf E o := by simp [Array.getD_eq_getD_getElem?, ho]
    rw [e1, e2] at h7
    unfold pairOk at h7
    rw [Bool.or_eq_true] at h7
    refine h7.resolve_right fun hn => ?_
    rcases hc with ⟨c1, c2 | c2⟩ | ⟨c1, c2⟩ <;> simp [c1, c2] at hn
  · rw [List.all_eq_true] at h5
    have h6 := h5 (o, i) (zip_mem ho)
    simp only [hc, bne_self_eq_false, Bool.false_or, Bool.and_eq_true, Option.isNone_iff_eq_none, beq_iff_eq] at h6
    exact ⟨h6.1, fun j => by unfold ordB; rw [h6.2]; simp⟩

theorem isAlloc_iff {o : Oper} : isAlloc o = true ↔ clsOf E o = 4 := by
  constructor
  · intro h
    unfold isAlloc at h
    split at h
    · rename_i ho; simp [clsOf, ho]
    · cases h
  · intro h
    unfold clsOf at h
    unfold isAlloc
    split at h <;> first
      | (rename_i ho; simp only [ho]; done)
      | (exfalso; revert h; first
          | decide
          | (split <;> first | decide | (split <;> first | decide | (split <;> decide))))

/-- an operation has to do with a slot -/
def cn (E : Env) (ops : Array Oper) (i t : Nat) : Prop := ∃ o, ops[i]? = some o ∧ (o.dst = some t ∨ (clsOf E o = 3 ∧ t ∈ slotsOf (ops.toList.take i) o))

theorem slots_mem {pre : List Oper} {o : Oper} {t : Nat} (h : t ∈ slotsOf pre o) : ∃ x ∈ o.op.operands.toList, x = .tmp t ∨ t ∈ extraOf pre x := by
  obtain ⟨x, hx, ht⟩ := List.mem_flatMap.1 h
  refine ⟨x, hx, ?_⟩
  rcases List.mem_append.1 ht with ht | ht
  · rw [mem_tmpsOf] at ht
    simp only [List.mem_singleton] at ht
    exact .inl ht.symm
  · exact .inr ht

theorem ordI_lt {b : Array Nat} {i j : Nat} (h : i < j) : (ordI b i j = true ↔ ordB b i j = true) ∧ (ordI b j i = true ↔ ordB b i j = true) := by
  unfold ordI
  rw [Nat.min_eq_left (by omega), Nat.max_eq_right (by omega), Nat.min_eq_right (by omega), Nat.max_eq_left (by omega)]
  exact ⟨Iff.rfl, Iff.rfl⟩

theorem cn_ord (hd : DOk E ops) {i j t : Nat} (hi : cn E ops i t) (hj : cn E ops j t) (hlt : i < j) : ordB (Region.before ops) i j = true := by
  obtain ⟨u, hu, hu'⟩ := hi
  obtain ⟨o, ho, ho'⟩ := hj
  rcases ho' with ho' | ⟨c, ho'⟩
  · rcases hu' with hu' | ⟨c, hu'⟩
    · exact (ordI_lt hlt).1.1 (namesOk_spec hd.names ho (names_dst ho') hu hu' (by omega))
    · obtain ⟨x, hx, hxt⟩ := slots_mem hu'
      rcases hxt with rfl | hxt
      · exact (ordI_lt hlt).2.1 (namesOk_spec hd.names hu (names_opd hx) ho ho' (by omega))
      · rcases extraOk_spec hd.extra hu c hx hxt ho ho' (by omega) with h | h
        · exact hd.pair i j u o hlt hu ho (.inl ⟨c, .inl h⟩)
        · exact (ordI_lt hlt).2.1 h
  · rcases hu' with hu' | ⟨c', hu'⟩
    · obtain ⟨x, hx, hxt⟩ := slots_mem ho'
      rcases hxt with rfl | hxt
      · exact (ordI_lt hlt).1.1 (namesOk_spec hd.names ho (names_opd hx) hu hu' (by omega))
      · rcases extraOk_spec hd.extra ho c hx hxt hu hu' (by omega) with h | h
        · exact hd.pair i j u o hlt hu ho (.inl ⟨h, .inl c⟩)
        · exact (ordI_lt hlt).1.1 h
    · exact hd.pair i j u o hlt hu ho (.inl ⟨c', .inl c⟩)

end

theorem size_of {ops : Array Oper} {i : Nat} {o : Oper} (h : ops[i]? = some o) : i < ops.size := (Array.getElem?_eq_some_iff.1 h).1

/-- a run of the whole region in the order of the text, and what is known of it -/
structure Text (E : Env) (C : Handler) (K : Ctx) (f rid : Nat) (ops : Array Oper) (T : Nat → St) (s0 : St) (al : List Nat) (zs : List (List V)) : Prop where
  ok : DOk E ops
  pure : CallPure E C
  step : ∀ i, i < ops.size → DStep E C K f rid ops i (T i) (T (i + 1))
  re1 : ∀ i o r, i < ops.size → Does E C K f rid ops i (T i) o r → clsOf E o = 1 → ∀ j oj rj, j < i → Does E C K f rid ops j (T j) oj rj → clsOf E oj = 3 → ordB (Region.before ops) j i = true ∨ Same E C K f rid ops i o (T i).fr (T j).m r.v
  re3 : ∀ i o r, i < ops.size → Does E C K f rid ops i (T i) o r → clsOf E o = 3 → ∀ j oj rj, j < i → Does E C K f rid ops j (T j) oj rj → clsOf E oj = 1 → ordB (Region.before ops) j i = true ∨ Same E C K f rid ops j oj (T j).fr (T (i + 1)).m rj.v
  wf : ∀ i, i ≤ ops.size → Wf K (T i).m.h
  inv : ∀ i, i ≤ ops.size → HInv K s0.m.h (T i).m.h
  zl : zs.length = al.length
  alm : ∀ (i : Nat) (o : Oper), ops[i]? = some o → isAlloc o = true → ∃ k : Nat, al[k]? = some i
  ala : ∀ (k i : Nat), al[k]? = some i → ∃ o t z, ops[i]? = some o ∧ o.op = .alloc t ∧ zs[k]? = some z ∧ zeroCells E.Q (E.nilF f) t = some z
  off : ∀ (t : Nat), (∀ (i : Nat) (o : Oper), ops[i]? = some o → isAlloc o = true → o.dst ≠ some t) → rd (T 0).fr t = rd s0.fr t
  at_ : ∀ (k i : Nat) (o : Oper) (t : Nat), al[k]? = some i → ops[i]? = some o → o.dst = some t → (∀ (i' : Nat) (o' : Oper), i' ≠ i → ops[i']? = some o' → isAlloc o' = true → o'.dst ≠ some t) → rd (T 0).fr t = .ptr (s0.m.h.length + k) 0

section
variable {E : Env} {C : Handler} {K : Ctx} {f rid : Nat} {ops : Array Oper} {T : Nat → St} {s0 : St} {al : List Nat} {zs : List (List V)}

def touch (T : Nat → St) (i t : Nat) : Prop := rd (T (i + 1)).fr t ≠ rd (T i).fr t


theorem Text.alloc_no (hT : Text E C K f rid ops T s0 al zs) {i j : Nat} {o : Oper} (ho : ops[i]? = some o) (ha : isAlloc o = true) : ordB (Region.before ops) j i = false := (hT.ok.al i o ho (isAlloc_iff.1 ha)).2 j

theorem Text.lost (hT : Text E C K f rid ops T s0 al zs) {i t : Nat} (hi : i < ops.size) (hd : ∀ o, ops[i]? = some o → o.dst ≠ some t) : cp (rd (T (i + 1)).fr t) = cp (rd (T i).fr t) := by
  obtain ⟨o, ho, h⟩ := hT.step i hi
  have hd := hd o ho
  rcases h with ⟨_, e⟩ | ⟨_, _, e⟩ | ⟨ha, hw, r, hev, hlen, e⟩
  · rw [e]
  · rw [e]; show cp (rd (putF _ _ _) t) = _; rw [putF_ne hd]
  · rw [e]
    show cp (rd (putF _ _ _) t) = _
    rw [putF_ne hd]
    by_cases h3 : clsOf E o = 3
    · exact evOp_lost h3 hev t
    · have h4 : clsOf E o ≠ 4 := fun h4 => by rw [isAlloc_iff.2 h4] at ha; cases ha
      obtain ⟨_, e2, _⟩ := evOp_cpa hT.pure (hT.wf i (by omega)) h3 h4 (fun _ _ => rfl) (fun _ => hlen h3) hev
      rw [e2]

theorem Text.touch_cn (hT : Text E C K f rid ops T s0 al zs) {i t : Nat} (hi : i < ops.size) (h : touch T i t) : cn E ops i t := by
  obtain ⟨o, ho, hs⟩ := hT.step i hi
  refine ⟨o, ho, ?_⟩
  by_cases hd : o.dst = some t
  · exact .inl hd
  refine .inr ?_
  unfold touch at h
  rcases hs with ⟨_, e⟩ | ⟨_, _, e⟩ | ⟨ha, hw, r, hev, hlen, e⟩
  · rw [e] at h; exact absurd rfl h
  · rw [e] at h
    exact absurd (show rd (putF _ _ _) t = _ from putF_ne hd) h
  · rw [e] at h
    have h' : rd r.fr t ≠ rd (T i).fr t := fun e' => h (by show rd (putF _ _ _) t = _; rw [putF_ne hd]; exact e')
    by_cases h3 : clsOf E o = 3
    · refine ⟨h3, ?_⟩
      obtain ⟨fr2, _, _, p, _⟩ := evOp_congr (fr' := (T i).fr) h3 (S := fun t => t ∈ slotsOf (ops.toList.take i) o) (fun _ h => h) (fun _ _ => rfl) hev
      by_cases hm : t ∈ slotsOf (ops.toList.take i) o
      · exact hm
      · exact absurd (p t hm) h'
    · have h4 : clsOf E o ≠ 4 := fun h4 => by rw [isAlloc_iff.2 h4] at ha; cases ha
      obtain ⟨_, e2, _⟩ := evOp_cpa hT.pure (hT.wf i (by omega)) h3 h4 (fun _ _ => rfl) (fun _ => hlen h3) hev
      rw [e2] at h'
      exact absurd rfl h'

theorem chain {α : Type} (g : Nat → α) {a b : Nat} (hab : a ≤ b) (h : ∀ i, a ≤ i → i < b → g (i + 1) = g i) : g b = g a := by
  induction b with
  | zero => have : a = 0 := by omega
            subst this; rfl
  | succ b ih =>
    by_cases e : a = b + 1
    · subst e; rfl
    · rw [h b (by omega) (by omega)]
      exact ih (by omega) fun i h1 h2 => h i h1 (by omega)

/-- the value of a slot as the operations in L leave it -/
def SlotAt (ops : Array Oper) (T : Nat → St) (s0 : St) (L : Nat → Prop) (t : Nat) (v : V) : Prop :=
  (∃ (i : Nat) (o : Oper), ops[i]? = some o ∧ isAlloc o = true ∧ o.dst = some t ∧ ¬ L i ∧ v = rd s0.fr t) ∨
  ((∀ (i : Nat) (o : Oper), ops[i]? = some o → isAlloc o = true → o.dst = some t → L i) ∧ ∃ k, k ≤ ops.size ∧ v = rd (T k).fr t ∧ (∀ i, i < k → touch T i t → L i) ∧ (∀ i, k ≤ i → i < ops.size → touch T i t → ¬ L i))

variable {L : Nat → Prop} {j : Nat}

theorem Text.before (hT : Text E C K f rid ops T s0 al zs) (hD : Down ops L) (hj : ¬ L j) (hr : ∀ o, ops[j]? = some o → ∀ e ∈ o.after.toList, Region.binds .any e = true → L e.on) {i : Nat} (h : ordB (Region.before ops) i j = true) : L i := ord_in hT.ok.edges hD j i hr h
theorem Text.after (hT : Text E C K f rid ops T s0 al zs) (hD : Down ops L) (hj : ¬ L j) (hr : ∀ o, ops[j]? = some o → ∀ e ∈ o.after.toList, Region.binds .any e = true → L e.on) {i : Nat} (h : ordB (Region.before ops) j i = true) : ¬ L i := fun hi => hj (ord_in hT.ok.edges hD i j (fun o ho => hD i o hi ho) h)

/-- a slot that the operation has to do with stands as in the text -/
theorem Text.slot_raw (hT : Text E C K f rid ops T s0 al zs) (hD : Down ops L) (hj : ¬ L j) (hr : ∀ o, ops[j]? = some o → ∀ e ∈ o.after.toList, Region.binds .any e = true → L e.on) {oj : Oper} (hoj : ops[j]? = some oj) (hna : isAlloc oj = false) {t : Nat} (hc : cn E ops j t) {v : V} (hs : SlotAt ops T s0 L t v) : v = rd (T j).fr t := by
  have hjs : j < ops.size := size_of hoj
  rcases hs with ⟨i, o, ho, ha, hd, hl, _⟩ | ⟨_, k, hk, rfl, h1, h2⟩
  · have hci : cn E ops i t := ⟨o, ho, .inl hd⟩
    rcases Nat.lt_trichotomy i j with h | h | h
    · exact absurd (hT.before hD hj hr (cn_ord hT.ok hci hc h)) hl
    · subst h; rw [ho] at hoj; simp only [Option.some.injEq] at hoj; subst hoj; rw [ha] at hna; cases hna
    · have := cn_ord hT.ok hc hci h
      rw [hT.alloc_no ho ha] at this; cases this
  · rcases Nat.le_total k j with hkj | hkj
    · refine (chain (fun i => rd (T i).fr t) hkj fun i hi hij => ?_).symm
      by_cases ht : touch T i t
      · have hl := h2 i hi (by omega) ht
        exact absurd (hT.before hD hj hr (cn_ord hT.ok (hT.touch_cn (by omega) ht) hc hij)) hl
      · exact Classical.not_not.1 ht
    · refine chain (fun i => rd (T i).fr t) hkj fun i hi hij => ?_
      by_cases ht : touch T i t
      · have hl := h1 i hij ht
        by_cases e : i = j
        · subst e; exact absurd hl hj
        · exact absurd hl (hT.after hD hj hr (cn_ord hT.ok hc (hT.touch_cn (by omega) ht) (by omega)))
      · exact Classical.not_not.1 ht

/-- a slot that the operation names, but for the right to append -/
theorem Text.slot_cp (hT : Text E C K f rid ops T s0 al zs) (hD : Down ops L) (hj : ¬ L j) (hr : ∀ o, ops[j]? = some o → ∀ e ∈ o.after.toList, Region.binds .any e = true → L e.on) {oj : Oper} (hoj : ops[j]? = some oj) (hna : isAlloc oj = false) {t : Nat} (hc : t ∈ namesOf ops oj) {v : V} (hs : SlotAt ops T s0 L t v) : cp v = cp (rd (T j).fr t) := by
  have hjs : j < ops.size := size_of hoj
  rcases hs with ⟨i, o, ho, ha, hd, hl, _⟩ | ⟨_, k, hk, rfl, h1, h2⟩
  · rcases Nat.lt_trichotomy i j with h | h | h
    · exact absurd (hT.before hD hj hr ((ordI_lt h).1.1 (namesOk_spec hT.ok.names hoj hc ho hd (by omega)))) hl
    · subst h; rw [ho] at hoj; simp only [Option.some.injEq] at hoj; subst hoj; rw [ha] at hna; cases hna
    · have := (ordI_lt h).2.1 (namesOk_spec hT.ok.names hoj hc ho hd (by omega))
      rw [hT.alloc_no ho ha] at this; cases this
  · rcases Nat.le_total k j with hkj | hkj
    · refine (chain (fun i => cp (rd (T i).fr t)) hkj fun i hi hij => ?_).symm
      by_cases ht : touch T i t
      · have hl := h2 i hi (by omega) ht
        refine hT.lost (by omega) fun o ho hd => ?_
        exact hl (hT.before hD hj hr ((ordI_lt hij).1.1 (namesOk_spec hT.ok.names hoj hc ho hd (by omega))))
      · exact congrArg cp (Classical.not_not.1 ht)
    · refine chain (fun i => cp (rd (T i).fr t)) hkj fun i hi hij => ?_
      by_cases ht : touch T i t
      · have hl := h1 i hij ht
        by_cases e : i = j
        · subst e; exact absurd hl hj
        · refine hT.lost (by omega) fun o ho hd => ?_
          exact absurd hl (hT.after hD hj hr ((ordI_lt (by omega : j < i)).2.1 (namesOk_spec hT.ok.names hoj hc ho hd e)))
      · exact congrArg cp (Classical.not_not.1 ht)

/-- slots behind the operation -/
theorem Text.slots_step (hT : Text E C K f rid ops T s0 al zs) (hD : Down ops L) (hj : ¬ L j) (hr : ∀ o, ops[j]? = some o → ∀ e ∈ o.after.toList, Region.binds .any e = true → L e.on) {oj : Oper} (hoj : ops[j]? = some oj) {fr fr' : Fr} (hs : ∀ t, SlotAt ops T s0 L t (rd fr t)) (h1 : ∀ t, cn E ops j t → rd fr' t = rd (T (j + 1)).fr t) (h2 : ∀ t, ¬ cn E ops j t → rd fr' t = rd fr t) :
    ∀ t, SlotAt ops T s0 (fun i => L i ∨ i = j) t (rd fr' t) := by
  have hjs : j < ops.size := size_of hoj
  intro t
  by_cases hc : cn E ops j t
  · rw [h1 t hc]
    refine .inr ⟨fun i o ho ha hd => ?_, j + 1, by omega, rfl, fun i hi ht => ?_, fun i hi hlt ht => ?_⟩
    · have hci : cn E ops i t := ⟨o, ho, .inl hd⟩
      rcases Nat.lt_trichotomy i j with h | h | h
      · exact .inl (hT.before hD hj hr (cn_ord hT.ok hci hc h))
      · exact .inr h
      · have := cn_ord hT.ok hc hci h
        rw [hT.alloc_no ho ha] at this; cases this
    · by_cases e : i = j
      · exact .inr e
      · exact .inl (hT.before hD hj hr (cn_ord hT.ok (hT.touch_cn (by omega) ht) hc (by omega)))
    · rintro (hl | e)
      · exact hT.after hD hj hr (cn_ord hT.ok hc (hT.touch_cn hlt ht) (by omega)) hl
      · omega
  · rw [h2 t hc]
    rcases hs t with ⟨i, o, ho, ha, hd, hl, e⟩ | ⟨p1, k, hk, e, p2, p3⟩
    · refine .inl ⟨i, o, ho, ha, hd, ?_, e⟩
      rintro (h | h)
      · exact hl h
      · subst h; exact hc ⟨o, ho, .inl hd⟩
    · refine .inr ⟨fun i o ho ha hd => .inl (p1 i o ho ha hd), k, hk, e, fun i hi ht => .inl (p2 i hi ht), fun i hi hlt ht => ?_⟩
      rintro (h | h)
      · exact p3 i hi hlt ht h
      · subst h; exact hc (hT.touch_cn hlt ht)

/-- slots behind an alloc -/
theorem Text.slots_alloc (hT : Text E C K f rid ops T s0 al zs) (hD : Down ops L) (hj : ¬ L j) (hr : ∀ o, ops[j]? = some o → ∀ e ∈ o.after.toList, Region.binds .any e = true → L e.on) {oj : Oper} (hoj : ops[j]? = some oj) (ha : isAlloc oj = true) {k : Nat} (hk : al[k]? = some j) {fr : Fr} (hs : ∀ t, SlotAt ops T s0 L t (rd fr t)) :
    ∀ t, SlotAt ops T s0 (fun i => L i ∨ i = j) t (rd (putF fr oj.dst (.ptr (s0.m.h.length + k) 0)) t) := by
  have hjs : j < ops.size := size_of hoj
  intro t
  by_cases hd : oj.dst = some t
  · have hc : cn E ops j t := ⟨oj, hoj, .inl hd⟩
    have uniq : ∀ i o, i ≠ j → ops[i]? = some o → isAlloc o = true → o.dst ≠ some t := fun i o hne ho hao hdo => by
      have hci : cn E ops i t := ⟨o, ho, .inl hdo⟩
      rcases Nat.lt_or_gt_of_ne hne with h | h
      · have := cn_ord hT.ok hci hc h
        rw [hT.alloc_no hoj ha] at this; cases this
      · have := cn_ord hT.ok hc hci h
        rw [hT.alloc_no ho hao] at this; cases this
    rw [hd, putF_at, ← hT.at_ k j oj t hk hoj hd uniq]
    refine .inr ⟨fun i o ho hao hdo => ?_, 0, by omega, rfl, fun i hi => by omega, fun i hi hlt ht => ?_⟩
    · by_cases e : i = j
      · exact .inr e
      · exact absurd hdo (uniq i o e ho hao)
    · have hne : i ≠ j := fun e => by
        subst e
        obtain ⟨o, ho, hst⟩ := hT.step i hjs
        rw [ho] at hoj; simp only [Option.some.injEq] at hoj; subst hoj
        rcases hst with ⟨_, e⟩ | ⟨e, _⟩ | ⟨e, _⟩
        · unfold touch at ht; rw [e] at ht; exact ht rfl
        · rw [ha] at e; cases e
        · rw [ha] at e; cases e
      have hci := hT.touch_cn hlt ht
      rintro (hl | e)
      · rcases Nat.lt_or_gt_of_ne hne with h | h
        · have := cn_ord hT.ok hci hc h
          rw [hT.alloc_no hoj ha] at this; cases this
        · exact hT.after hD hj hr (cn_ord hT.ok hc hci h) hl
      · exact hne e
  · rw [putF_ne hd]
    have hnc : ¬ cn E ops j t := by
      rintro ⟨o, ho, h⟩
      rw [ho] at hoj; simp only [Option.some.injEq] at hoj; subst hoj
      rcases h with h | ⟨h, _⟩
      · exact hd h
      · have := isAlloc_iff (E := E).1 ha
        omega
    rcases hs t with ⟨i, o, ho, hao, hdo, hl, e⟩ | ⟨p1, k, hk, e, p2, p3⟩
    · refine .inl ⟨i, o, ho, hao, hdo, ?_, e⟩
      rintro (h | h)
      · exact hl h
      · subst h; exact hnc ⟨o, ho, .inl hdo⟩
    · refine .inr ⟨fun i o ho ha hd => .inl (p1 i o ho ha hd), k, hk, e, fun i hi ht => .inl (p2 i hi ht), fun i hi hlt ht => ?_⟩
      rintro (h | h)
      · exact p3 i hi hlt ht h
      · subst h; exact hnc (hT.touch_cn hlt ht)

end
end Go.Wn

namespace Go.Wn
open Go

theorem first_or (p : Nat → Prop) (c : Nat) : ∀ d, (∀ j, c ≤ j → j < c + d → ¬ p j) ∨ ∃ k, c ≤ k ∧ k < c + d ∧ p k ∧ ∀ j, c ≤ j → j < k → ¬ p j
  | 0 => .inl fun j h1 h2 => by omega
  | d + 1 => by
    rcases first_or p c d with h | ⟨k, h1, h2, h3, h4⟩
    · by_cases hp : p (c + d)
      · exact .inr ⟨c + d, by omega, by omega, hp, fun j h1 h2 => h j h1 h2⟩
      · refine .inl fun j h1 h2 => ?_
        by_cases e : j = c + d
        · subst e; exact hp
        · exact h j h1 (by omega)
    · exact .inr ⟨k, h1, by omega, h3, h4⟩

theorem last_or (p : Nat → Prop) (c : Nat) : ∀ d, (∀ j, c ≤ j → j < c + d → ¬ p j) ∨ ∃ k, c ≤ k ∧ k < c + d ∧ p k ∧ ∀ j, k < j → j < c + d → ¬ p j
  | 0 => .inl fun j h1 h2 => by omega
  | d + 1 => by
    by_cases hp : p (c + d)
    · exact .inr ⟨c + d, by omega, by omega, hp, fun j h1 h2 => by omega⟩
    · rcases last_or p c d with h | ⟨k, h1, h2, h3, h4⟩
      · refine .inl fun j h1 h2 => ?_
        by_cases e : j = c + d
        · subst e; exact hp
        · exact h j h1 (by omega)
      · refine .inr ⟨k, h1, by omega, h3, fun j h5 h6 => ?_⟩
        by_cases e : j = c + d
        · subst e; exact hp
        · exact h4 j h5 (by omega)

section
variable {P : Program} {E : Env} {C : Handler} {K : Ctx} {Cx : Nat → Nat} {f rid : Nat} {ops : Array Oper} {T : Nat → St} {s0 : St} {al : List Nat} {zs : List (List V)}

structure DI (E : Env) (K : Ctx) (Cx : Nat → Nat) (ops : Array Oper) (T : Nat → St) (s0 : St) (al : List Nat) (zs : List (List V)) (g0 : Gh) (w0 : World) (N : Nat) (ds : List Deferred) (L : Nat → Prop) (a : Act) (w : World) (g : Gh) (fr : Fr) (c : Nat) : Prop where
  rel : Rel Cx g w a.tmps fr (T c).m
  cn : c ≤ ops.size
  cut1 : ∀ (i : Nat) (o : Oper), i < c → ops[i]? = some o → clsOf E o = 3 → L i
  cut2 : ∀ (i : Nat) (o : Oper), c ≤ i → ops[i]? = some o → clsOf E o = 3 → ¬ L i
  slots : ∀ t, SlotAt ops T s0 L t (rd fr t)
  unb : ∀ (k i : Nat) (z : List V), al[k]? = some i → zs[k]? = some z → ¬ L i → g.ρ[s0.m.h.length + k]? = some none ∧ (g.z (s0.m.h.length + k)).1 = z
  stp : Stp (D0 K Cx g0 w0 s0.m) g0 w0 g w
  old : ∀ b, b < K.ro → g.ρ[b]? = g0.ρ[b]?
  idl : IdL E false ops L g w a.tmps fr
  size : a.tmps.size = N
  defs : a.defers = ds
  down : Down ops L


theorem Text.mem_same (hT : Text E C K f rid ops T s0 al zs) {a b : Nat} (hab : a ≤ b) (hb : b ≤ ops.size) (h : ∀ i, a ≤ i → i < b → ¬ ∃ o r, Does E C K f rid ops i (T i) o r ∧ clsOf E o = 3) : (T b).m = (T a).m := by
  refine chain (fun i => (T i).m) hab fun i hi hib => ?_
  obtain ⟨o, ho, hs⟩ := hT.step i (by omega)
  rcases hs with ⟨_, e⟩ | ⟨_, _, e⟩ | ⟨ha, hw, r, hev, _, e⟩
  · show (T (i + 1)).m = _; rw [e]
  · show (T (i + 1)).m = _; rw [e]
  · show (T (i + 1)).m = _
    rw [e]
    show (if clsOf E o = 3 then r.m else (T i).m) = _
    rw [if_neg fun h3 => h i hi hib ⟨o, r, ⟨ho, ha, hw, hev⟩, h3⟩]

variable {g0 : Gh} {w0 : World} {N : Nat} {ds : List Deferred} {L : Nat → Prop} {a : Act} {w : World} {g : Gh} {fr : Fr} {c : Nat} {j : Nat} {oj : Oper}

/-- memory at an operation that is ordered with all that change it -/
theorem Text.mem_ord (hT : Text E C K f rid ops T s0 al zs) (hI : DI E K Cx ops T s0 al zs g0 w0 N ds L a w g fr c) (hj : ¬ L j) (hr : ∀ o, ops[j]? = some o → ∀ e ∈ o.after.toList, Region.binds .any e = true → L e.on) (hoj : ops[j]? = some oj) (h23 : clsOf E oj = 3 ∨ clsOf E oj = 2) : (T c).m = (T j).m := by
  have hjs := size_of hoj
  have hno : ∀ i, i < ops.size → i ≠ j → (∃ o r, Does E C K f rid ops i (T i) o r ∧ clsOf E o = 3) → (i < j → L i) ∧ (j < i → ¬ L i) := fun i _ hne ⟨o, r, hd, h3⟩ => by
    refine ⟨fun hlt => hT.before hI.down hj hr (hT.ok.pair i j o oj hlt hd.1 hoj (.inl ⟨h3, h23⟩)), fun hlt => hT.after hI.down hj hr (hT.ok.pair j i oj o hlt hoj hd.1 ?_)⟩
    rcases h23 with h | h
    · exact .inl ⟨h, .inl h3⟩
    · exact .inr ⟨h, h3⟩
  rcases Nat.le_total c j with h | h
  · refine (hT.mem_same h (by omega) fun i hi hij hP => ?_).symm
    obtain ⟨o, r, hd, h3⟩ := hP
    exact hI.cut2 i o hi hd.1 h3 ((hno i (by omega) (by omega) ⟨o, r, hd, h3⟩).1 hij)
  · refine hT.mem_same h hI.cn fun i hi hic hP => ?_
    obtain ⟨o, r, hd, h3⟩ := hP
    have hl := hI.cut1 i o hic hd.1 h3
    by_cases e : i = j
    · subst e; exact hj hl
    · exact (hno i (by have := hI.cn; omega) e ⟨o, r, hd, h3⟩).2 (by omega) hl

/-- what an operation that changes no memory gives at the memory that stands -/
theorem Text.mem_val (hT : Text E C K f rid ops T s0 al zs) (hI : DI E K Cx ops T s0 al zs g0 w0 N ds L a w g fr c) (hj : ¬ L j) (hr : ∀ o, ops[j]? = some o → ∀ e ∈ o.after.toList, Region.binds .any e = true → L e.on) (hoj : ops[j]? = some oj) {r : Out} (hd : Does E C K f rid ops j (T j) oj r) (hlen : r.m.h.length = (T j).m.h.length) (h3 : clsOf E oj ≠ 3) : Same E C K f rid ops j oj (T j).fr (T c).m r.v ∧
    (clsOf E oj = 0 → evOp E C K f rid false (ops.toList.take j) oj (T j).fr (T c).m = some ⟨r.v, (T c).m, (T j).fr⟩) := by
  have hjs := size_of hoj
  have h4 : clsOf E oj ≠ 4 := fun h4 => by have := hd.2.1; rw [isAlloc_iff.2 h4] at this; cases this
  refine ⟨?_, fun h0 => evOp_cls0 h0 hlen hd.2.2.2 _⟩
  by_cases h0 : clsOf E oj = 0
  · exact ⟨_, evOp_cls0 h0 hlen hd.2.2.2 _, rfl⟩
  by_cases h2 : clsOf E oj = 2
  · rw [hT.mem_ord hI hj hr hoj (.inr h2)]
    exact ⟨r, hd.2.2.2, rfl⟩
  have h1 : clsOf E oj = 1 := by
    have hle : clsOf E oj ≤ 4 := by
      unfold clsOf
      repeat' split
      all_goals omega
    omega
  rcases Nat.le_total c j with h | h
  · rcases first_or (fun i => ∃ o r, Does E C K f rid ops i (T i) o r ∧ clsOf E o = 3) c (j - c) with hn | ⟨k, k1, k2, ⟨ok, rk, kd, k3⟩, k4⟩
    · have e := hT.mem_same h (by omega) fun i hi hij => hn i hi (by omega)
      rw [← e]; exact ⟨r, hd.2.2.2, rfl⟩
    · have e := hT.mem_same k1 (by omega) k4
      rw [← e]
      exact (hT.re1 j oj r hjs hd h1 k ok rk (by omega) kd k3).resolve_left fun ho => hI.cut2 k ok k1 kd.1 k3 (hT.before hI.down hj hr ho)
  · rcases last_or (fun i => ∃ o r, Does E C K f rid ops i (T i) o r ∧ clsOf E o = 3) j (c - j) with hn | ⟨k, k1, k2, ⟨ok, rk, kd, k3⟩, k4⟩
    · have e := hT.mem_same h hI.cn fun i hi hij => hn i hi (by omega)
      rw [e]; exact ⟨r, hd.2.2.2, rfl⟩
    · have e := hT.mem_same (a := k + 1) (b := c) (by omega) hI.cn fun i hi hic => k4 i (by omega) (by omega)
      rw [e]
      have hl := hI.cut1 k ok (by omega) kd.1 k3
      have hne : k ≠ j := fun e => by subst e; exact hj hl
      have hcn := hI.cn
      exact (hT.re3 k ok rk (by omega) kd k3 j oj r (by omega) hd h1).resolve_left fun ho => hT.after hI.down hj hr ho hl

theorem Text.hord (hT : Text E C K f rid ops T s0 al zs) (hI : DI E K Cx ops T s0 al zs g0 w0 N ds L a w g fr c) (hj : ¬ L j) (hr : ∀ o, ops[j]? = some o → ∀ e ∈ o.after.toList, Region.binds .any e = true → L e.on) (hoj : ops[j]? = some oj) : ∀ (i : Nat) (oi : Oper) (t : Nat), L i → ops[i]? = some oi → t ∈ namesOf ops oi → oj.dst = some t → i < j := fun i oi t hl hoi ht hd => by
  rcases Nat.lt_trichotomy i j with h | h | h
  · exact h
  · subst h; exact absurd hl hj
  · exact absurd hl (hT.after hI.down hj hr ((ordI_lt h).1.1 (namesOk_spec hT.ok.names hoi ht hoj hd (by omega))))

theorem down_step {ops : Array Oper} {L : Nat → Prop} (hD : Down ops L) {j : Nat} (hr : ∀ o, ops[j]? = some o → ∀ e ∈ o.after.toList, Region.binds .any e = true → L e.on) : Down ops (fun i => L i ∨ i = j) := fun i o hi ho e he hb => by
  rcases hi with hi | rfl
  · exact .inl (hD i o hi ho e he hb)
  · exact .inl (hr o ho e he hb)

theorem Text.D0_le (hT : Text E C K f rid ops T s0 al zs) (hI : DI E K Cx ops T s0 al zs g0 w0 N ds L a w g fr c) (hj : ¬ L j) (hr : ∀ o, ops[j]? = some o → ∀ e ∈ o.after.toList, Region.binds .any e = true → L e.on) (hoj : ops[j]? = some oj) (B : Nat) : D0 K Cx g w (T c).m B = D0 K Cx g0 w0 s0.m B := D0_eq hI.stp hI.old (take_of_inv (hT.inv c hI.cn)) B

theorem Text.idsAt (hT : Text E C K f rid ops T s0 al zs) (hI : DI E K Cx ops T s0 al zs g0 w0 N ds L a w g fr c) (hj : ¬ L j) (hr : ∀ o, ops[j]? = some o → ∀ e ∈ o.after.toList, Region.binds .any e = true → L e.on) (hoj : ops[j]? = some oj) (hQ : TabOk P E.Q) (hna : isAlloc oj = false) : Ids P E false (fun t => clsOf E oj = 3 ∧ Operand.tmp t ∈ oj.op.operands.toList) (ops.toList.take j) fr a.tmps w := by
  refine hI.idl.ids hQ hj (fun t i oi hS hoi hd hlt => ?_) (fun t u k ok hS hu hok hd hlt => ?_) (fun _ ⟨t, hS⟩ k ok hl hlt hok => ?_) (fun h => by cases h)
  · exact hT.before hI.down hj hr ((ordI_lt hlt).1.1 (namesOk_spec hT.ok.names hoj (names_opd hS.2) hoi hd (by omega)))
  · rcases hu with rfl | hu
    · exact hT.after hI.down hj hr ((ordI_lt hlt).2.1 (namesOk_spec hT.ok.names hoj (names_opd hS.2) hok hd (by omega)))
    · rcases extraOk_spec hT.ok.extra hoj hS.1 hS.2 hu hok hd (by omega) with h | h
      · exact hT.after hI.down hj hr (hT.ok.pair j k oj ok hlt hoj hok (.inl ⟨hS.1, .inl h⟩))
      · exact hT.after hI.down hj hr ((ordI_lt hlt).2.1 h)
  · refine mem_wm3 fun h3 => hT.after hI.down hj hr (hT.ok.pair j k oj ok hlt hoj hok (.inl ⟨hS.1, .inl h3⟩)) hl

/-- an operation that is not wanted -/
theorem Text.skip (hT : Text E C K f rid ops T s0 al zs) (hI : DI E K Cx ops T s0 al zs g0 w0 N ds L a w g fr c) (hj : ¬ L j) (hr : ∀ o, ops[j]? = some o → ∀ e ∈ o.after.toList, Region.binds .any e = true → L e.on) (hoj : ops[j]? = some oj) (hw : wantedV ops (T j).fr oj = some false) (hna : isAlloc oj = false) (hd : ∀ t, oj.dst = some t → t < N) :
    Region.wanted oj (yielded ops a.tmps) = false ∧ ∃ g' fr' c', DI E K Cx ops T s0 al zs g0 w0 N ds (fun i => L i ∨ i = j) (a.put oj.dst undef) w g' fr' c' := by
  have hjs := size_of hoj
  have hw' : wantedV ops fr oj = some false := by
    rw [wantedV_cp (fr := (T j).fr) fun d hd => hT.slot_cp hI.down hj hr hoj hna (List.mem_append_left _ (List.mem_append_right _ hd)) (hI.slots d)]; exact hw
  refine ⟨wanted_sound hI.rel.frm hw', g, putF fr oj.dst .nov, if c ≤ j ∧ clsOf E oj = 3 then j + 1 else c, ?_⟩
  have hsz : ∀ t, oj.dst = some t → t < a.tmps.size := fun t ht => by rw [hI.size]; exact hd t ht
  have hTj : (T (j + 1)) = ⟨putF (T j).fr oj.dst .nov, (T j).m⟩ := by
    obtain ⟨o, ho, hs⟩ := hT.step j hjs
    rw [ho] at hoj; simp only [Option.some.injEq] at hoj; subst hoj
    rcases hs with ⟨e, _⟩ | ⟨_, _, e⟩ | ⟨_, e, _⟩
    · rw [hna] at e; cases e
    · exact e
    · rw [hw] at e; cases e
  have hm : (T (if c ≤ j ∧ clsOf E oj = 3 then j + 1 else c)).m = (T c).m := by
    split
    · rename_i h
      rw [hTj]; exact (hT.mem_ord hI hj hr hoj (.inl h.2)).symm
    · rfl
  have hpre : clsOf E oj = 3 → c ≤ j ∧ ∀ (i : Nat) (o : Oper), c ≤ i → i < j → ops[i]? = some o → clsOf E o = 3 → False := fun h3 => by
    refine ⟨?_, fun i o h1 h2 ho ho3 => hI.cut2 i o h1 ho ho3 (hT.before hI.down hj hr (hT.ok.pair i j o oj h2 ho hoj (.inl ⟨ho3, .inl h3⟩)))⟩
    rcases Nat.lt_or_ge j c with h | h
    · exact absurd (hI.cut1 j oj h hoj h3) hj
    · exact h
  refine ⟨?_, ?_, fun i o hi ho h3 => ?_, fun i o hi ho h3 => ?_, ?_, fun k i z h1 h2 h3 => hI.unb k i z h1 h2 fun hl => h3 (.inl hl), hI.stp, hI.old, ?_, by rw [put_tmps, putT_size]; exact hI.size, by rw [put_defers]; exact hI.defs, down_step hI.down hr⟩
  · rw [hm, put_tmps]; exact (RelV.of_rel hI.rel).putO oj.dst hsz
  · split
    · omega
    · exact hI.cn
  · by_cases e : i = j
    · exact .inr e
    · split at hi
      · rename_i h
        rcases Nat.lt_or_ge i c with hlt | hge
        · exact .inl (hI.cut1 i o hlt ho h3)
        · exact absurd h3 fun h3 => (hpre h.2).2 i o hge (by omega) ho h3
      · exact .inl (hI.cut1 i o hi ho h3)
  · rintro (hl | e)
    · split at hi
      · rename_i h; exact hI.cut2 i o (by omega) ho h3 hl
      · exact hI.cut2 i o hi ho h3 hl
    · subst e
      rw [ho] at hoj; simp only [Option.some.injEq] at hoj; subst hoj
      have := (hpre h3).1
      rw [if_pos ⟨this, h3⟩] at hi
      omega
  · refine hT.slots_step hI.down hj hr hoj hI.slots (fun t hc => ?_) fun t hc => ?_
    · rw [hTj]
      show _ = rd (putF (T j).fr oj.dst .nov) t
      by_cases e : oj.dst = some t
      · rw [e, putF_at, putF_at]
      · rw [putF_ne e, putF_ne e]
        exact hT.slot_raw hI.down hj hr hoj hna hc (hI.slots t)
    · exact putF_ne fun e => hc ⟨oj, hoj, .inl e⟩
  · rw [put_tmps]
    exact hI.idl.step (v := .nov) (y := undef) hoj (hT.hord hI hj hr hoj) (fun h => by cases h) (.refl _) hsz (fun _ _ _ _ h => h) (fun _ _ h => by cases h) (fun _ _ _ h => by cases h)

/-- an operation that is carried out -/
theorem Text.exec (hQ : TabOk P E.Q) (hC : CallOk P E C) (hT : Text E C K f rid ops T s0 al zs) (hI : DI E K Cx ops T s0 al zs g0 w0 N ds L a w g fr c) (hj : ¬ L j) (hr : ∀ o, ops[j]? = some o → ∀ e ∈ o.after.toList, Region.binds .any e = true → L e.on) (hoj : ops[j]? = some oj) {r : Out} (hd : Does E C K f rid ops j (T j) oj r) (hdst : ∀ t, oj.dst = some t → t < N) (next : Act → World → Prop) (Qe : Exit → Act → World → Prop)
    (hnext : ∀ a' w', (∃ g' fr' c', DI E K Cx ops T s0 al zs g0 w0 N ds (fun i => L i ∨ i = j) a' w' g' fr' c') → next a' w') :
    Region.wanted oj (yielded ops a.tmps) = true ∧ oj.wp P a w next Qe := by
  have hjs := size_of hoj
  obtain ⟨_, hna, hw, hev⟩ := hd
  have hd : Does E C K f rid ops j (T j) oj r := ⟨hoj, hna, hw, hev⟩
  have h4 : clsOf E oj ≠ 4 := fun h4 => by rw [isAlloc_iff.2 h4] at hna; cases hna
  have hw' : wantedV ops fr oj = some true := by
    rw [wantedV_cp (fr := (T j).fr) fun d hd => hT.slot_cp hI.down hj hr hoj hna (List.mem_append_left _ (List.mem_append_right _ hd)) (hI.slots d)]; exact hw
  refine ⟨wanted_sound hI.rel.frm hw', ?_⟩
  have hsz : ∀ t, oj.dst = some t → t < a.tmps.size := fun t ht => by rw [hI.size]; exact hdst t ht
  have hTj : (T (j + 1)) = ⟨putF r.fr oj.dst r.v, if clsOf E oj = 3 then r.m else (T j).m⟩ ∧ (clsOf E oj ≠ 3 → r.m.h.length = (T j).m.h.length) := by
    obtain ⟨o, ho, hs⟩ := hT.step j hjs
    rw [ho] at hoj; simp only [Option.some.injEq] at hoj; subst hoj
    rcases hs with ⟨e, _⟩ | ⟨_, e, _⟩ | ⟨_, _, r', hev', hl, e⟩
    · rw [hna] at e; cases e
    · rw [hw] at e; cases e
    · rw [hev] at hev'; simp only [Option.some.injEq] at hev'; subst hev'
      exact ⟨e, hl⟩
  obtain ⟨hTj, hlen⟩ := hTj
  have hids := hT.idsAt hI hj hr hoj hQ hna
  have hwf := hT.wf c hI.cn
  -- what it does here
  obtain ⟨r1, hev1, hv1, hagr, hoff⟩ : ∃ r1, evOp E C K f rid false (ops.toList.take j) oj fr (T c).m = some r1 ∧ r1.v = r.v ∧ (∀ t, cn E ops j t → rd (putF r1.fr oj.dst r.v) t = rd (T (j + 1)).fr t) ∧
      ∀ t, ¬ cn E ops j t → rd r1.fr t = rd fr t := by
    by_cases h3 : clsOf E oj = 3
    · have hm := hT.mem_ord hI hj hr hoj (.inl h3)
      obtain ⟨fr2, e1, e2, e3, e4⟩ := evOp_congr (fr' := fr) h3 (S := fun t => t ∈ slotsOf (ops.toList.take j) oj) (fun _ h => h)
        (fun t ht => hT.slot_raw hI.down hj hr hoj hna ⟨oj, hoj, .inr ⟨h3, ht⟩⟩ (hI.slots t)) hev
      rw [← hm] at e1
      refine ⟨_, e1, rfl, fun t ht => ?_, fun t ht => e4 t fun hm => ht ⟨oj, hoj, .inr ⟨h3, hm⟩⟩⟩
      rw [hTj]
      show _ = rd (putF r.fr oj.dst r.v) t
      by_cases e : oj.dst = some t
      · rw [e, putF_at, putF_at]
      · rw [putF_ne e, putF_ne e]
        obtain ⟨o, ho, hc⟩ := ht
        rw [ho] at hoj; simp only [Option.some.injEq] at hoj; subst hoj
        rcases hc with hc | ⟨_, hc⟩
        · exact absurd hc e
        · exact e2 t hc
    · obtain ⟨⟨r', hr', hrv⟩, h0⟩ := hT.mem_val hI hj hr hoj hd (hlen h3) h3
      obtain ⟨p1, p2, p3⟩ := evOp_cpa (fr' := fr) hT.pure hwf h3 h4 (fun t ht => hT.slot_cp hI.down hj hr hoj hna (names_opd ht) (hI.slots t)) (fun h00 => by
        have := h0 h00
        rw [hr'] at this; simp only [Option.some.injEq] at this; rw [this]) hr'
      refine ⟨_, p1, hrv, fun t ht => ?_, fun t ht => rfl⟩
      rw [hTj]
      show _ = rd (putF r.fr oj.dst r.v) t
      obtain ⟨o, ho, hc⟩ := ht
      rw [ho] at hoj; simp only [Option.some.injEq] at hoj; subst hoj
      rcases hc with hc | ⟨hc, _⟩
      · rw [hc, putF_at, putF_at]
      · exact absurd hc h3
  have hmem : r1.m = (T (if clsOf E oj = 3 then j + 1 else c)).m := by
    by_cases h3 : clsOf E oj = 3
    · rw [if_pos h3, hTj]
      show _ = (if clsOf E oj = 3 then r.m else (T j).m)
      rw [if_pos h3]
      have hm := hT.mem_ord hI hj hr hoj (.inl h3)
      obtain ⟨fr2, e1, _⟩ := evOp_congr (fr' := fr) h3 (S := fun t => t ∈ slotsOf (ops.toList.take j) oj) (fun _ h => h)
        (fun t ht => hT.slot_raw hI.down hj hr hoj hna ⟨oj, hoj, .inr ⟨h3, ht⟩⟩ (hI.slots t)) hev
      rw [← hm, hev1] at e1
      simp only [Option.some.injEq] at e1
      rw [e1]
    · rw [if_neg h3]
      obtain ⟨⟨r', hr', hrv⟩, h0⟩ := hT.mem_val hI hj hr hoj hd (hlen h3) h3
      obtain ⟨p1, p2, p3⟩ := evOp_cpa (fr' := fr) hT.pure hwf h3 h4 (fun t ht => hT.slot_cp hI.down hj hr hoj hna (names_opd ht) (hI.slots t)) (fun h00 => by
        have := h0 h00
        rw [hr'] at this; simp only [Option.some.injEq] at this; rw [this]) hr'
      rw [hev1] at p1
      simp only [Option.some.injEq] at p1
      rw [p1]
  have hpi := evOp_inv hT.pure (Nat.le_trans hwf.ro hwf.base) hev1
  have hpre : clsOf E oj = 3 → c ≤ j ∧ ∀ (i : Nat) (o : Oper), c ≤ i → i < j → ops[i]? = some o → clsOf E o = 3 → False := fun h3 => by
    refine ⟨?_, fun i o h1 h2 ho ho3 => hI.cut2 i o h1 ho ho3 (hT.before hI.down hj hr (hT.ok.pair i j o oj h2 ho hoj (.inl ⟨ho3, .inl h3⟩)))⟩
    rcases Nat.lt_or_ge j c with h | h
    · exact absurd (hI.cut1 j oj h hoj h3) hj
    · exact h
  refine evOp_sound hQ hC hI.rel hwf hids (fun t h ht => ⟨h.resolve_left (by simp), ht⟩) hev1 _ _ fun g' w' y hp h1 h2 => ?_
  refine hnext _ _ ⟨g', putF r1.fr oj.dst r.v, if clsOf E oj = 3 then j + 1 else c, ?_⟩
  have hpv := hp.rel
  rw [hv1] at hpv
  have hst := hI.stp.trans (hp.stp.mono fun B => by rw [← hT.D0_le hI hj hr hoj B]; exact Dk_D0 E K oj Cx g w (T c).m B)
  refine ⟨?_, ?_, fun i o hi ho h3 => ?_, fun i o hi ho h3 => ?_, ?_, fun k i z q1 q2 q3 => ?_, hst, fun b hb => (hp.old b hb).trans (hI.old b hb), ?_, by rw [put_tmps, putT_size]; exact hI.size, by rw [put_defers]; exact hI.defs, down_step hI.down hr⟩
  · rw [← hmem, put_tmps]; exact hpv.putO oj.dst hsz
  · split
    · omega
    · exact hI.cn
  · by_cases e : i = j
    · exact .inr e
    · split at hi
      · rename_i h
        rcases Nat.lt_or_ge i c with hlt | hge
        · exact .inl (hI.cut1 i o hlt ho h3)
        · exact absurd h3 fun h3 => (hpre h).2 i o hge (by omega) ho h3
      · exact .inl (hI.cut1 i o hi ho h3)
  · rintro (hl | e)
    · split at hi
      · rename_i h; have := (hpre h).1; exact hI.cut2 i o (by omega) ho h3 hl
      · exact hI.cut2 i o hi ho h3 hl
    · subst e
      rw [ho] at hoj; simp only [Option.some.injEq] at hoj; subst hoj
      rw [if_pos h3] at hi
      omega
  · refine hT.slots_step hI.down hj hr hoj hI.slots hagr fun t hc => ?_
    rw [putF_ne fun e => hc ⟨oj, hoj, .inl e⟩]
    exact hoff t hc
  · obtain ⟨u1, u2⟩ := hI.unb k i z q1 q2 fun hl => q3 (.inl hl)
    obtain ⟨u3, u4⟩ := hp.stp.ge.un _ u1
    exact ⟨u3, by rw [u4]; exact u2⟩
  · rw [put_tmps]
    exact hI.idl.step hoj (hT.hord hI hj hr hoj) (fun h => by cases h) hp.lost hsz (fun ty x z hc h => h.keep hI.rel hp.stp hpi.shp hp.rel.hp.sh hc) (fun s e _ => h1 s e)
      (fun ty x e _ => by obtain ⟨e1, e2, e3⟩ := h2 ty x e; rw [e1, e2]; exact e3)

/-- an alloc -/
theorem Text.make (hT : Text E C K f rid ops T s0 al zs) (hI : DI E K Cx ops T s0 al zs g0 w0 N ds L a w g fr c) (hj : ¬ L j) (hr : ∀ o, ops[j]? = some o → ∀ e ∈ o.after.toList, Region.binds .any e = true → L e.on) (hoj : ops[j]? = some oj) (hQ : TabOk P E.Q) (hD : ∀ B, w0.heap.size ≤ B → D0 K Cx g0 w0 s0.m B = 0) (hro : K.ro ≤ s0.m.h.length) (h0l : g0.ρ.length ≤ s0.m.h.length) (ha : isAlloc oj = true) (hdst : ∀ t, oj.dst = some t → t < N) (next : Act → World → Prop) (Qe : Exit → Act → World → Prop)
    (hnext : ∀ a' w', (∃ g' fr' c', DI E K Cx ops T s0 al zs g0 w0 N ds (fun i => L i ∨ i = j) a' w' g' fr' c') → next a' w') :
    Region.wanted oj (yielded ops a.tmps) = true ∧ oj.wp P a w next Qe := by
  have hjs := size_of hoj
  have h4 := isAlloc_iff (E := E).1 ha
  have hgd := (hT.ok.al j oj hoj h4).1
  refine ⟨by unfold Region.wanted; rw [hgd], ?_⟩
  obtain ⟨k, hk⟩ := hT.alm j oj hoj ha
  obtain ⟨o, t, z, ho, hop, hz, hzc⟩ := hT.ala k j hk
  rw [hoj] at ho; simp only [Option.some.injEq] at ho; subst ho
  obtain ⟨u1, u2⟩ := hI.unb k j z hk hz hj
  obtain ⟨zv, z1, z2, z3, z4⟩ := zero_cells hzc
  have hsz : ∀ t, oj.dst = some t → t < a.tmps.size := fun t ht => by rw [hI.size]; exact hdst t ht
  rw [← u2] at z2 z3 z4
  have hb := hI.rel.born u1 (ys := zv.cells) (T := t) z2 (fun g' w' j c h => z3 g' w' j c h) z4
  unfold Oper.wp
  have hrun : (execOp a.eval oj).run P w = .ok (.value (.pointer (some ⟨w.heap.size, 0, none⟩))) (w.alloc (.cells zv.cells t)) := by
    simp only [execOp, hop, Instr.alloc, Sem.run_bind, run_zeroValue hQ z1, Result.andThen_ok]
    simp [run_newVar]
  rw [hrun]
  refine hnext _ _ ⟨g.born (s0.m.h.length + k) w.heap.size, putF fr oj.dst (.ptr (s0.m.h.length + k) 0), c, ?_⟩
  have hst := hI.stp.born u1 (by omega) (.cells zv.cells t) hD
  refine ⟨?_, hI.cn, fun i o hi ho h3 => .inl (hI.cut1 i o hi ho h3), fun i o hi ho h3 => ?_, hT.slots_alloc hI.down hj hr hoj ha hk hI.slots, fun k' i z' q1 q2 q3 => ?_, hst, fun b hb' => ?_, ?_, by rw [put_tmps, putT_size]; exact hI.size, by rw [put_defers]; exact hI.defs, down_step hI.down hr⟩
  · rw [put_tmps]; exact hb.putO oj.dst hsz
  · rintro (hl | e)
    · exact hI.cut2 i o hi ho h3 hl
    · subst e
      rw [ho] at hoj; simp only [Option.some.injEq] at hoj; subst hoj
      omega
  · have hne : k' ≠ k := fun e => by
      subst e
      rw [hk] at q1; simp only [Option.some.injEq] at q1
      exact q3 (.inr q1.symm)
    obtain ⟨p1, p2⟩ := hI.unb k' i z' q1 q2 fun hl => q3 (.inl hl)
    refine ⟨?_, p2⟩
    simp only [Gh.born]
    rw [List.getElem?_set_ne (by omega)]; exact p1
  · simp only [Gh.born]
    rw [List.getElem?_set_ne (by omega)]
    exact hI.old b hb'
  · rw [put_tmps]
    refine hI.idl.step (v := .ptr (s0.m.h.length + k) 0) hoj (hT.hord hI hj hr hoj) (fun h => by cases h) (.refl _) hsz (fun ty x z _ h => ?_) (fun s e => by rw [hop] at e; cases e) (fun ty x e => by rw [hop] at e; cases e)
    obtain ⟨n, b, B, off, f', p1, p2, p3, p4, p5, p6, p7⟩ := h
    refine ⟨n, b, B, off, f', p1, p2, p3, p4, p5, fun i hi => ?_, ?_⟩
    · have := p6 i hi
      rw [cell?_congr (heap_alloc_lt w _ (cell?_lt this))]; exact this
    · split
      · rename_i hl; rw [if_pos hl] at p7; exact p7
      · rename_i hl
        rw [if_neg hl] at p7
        refine p7.imp (fun ⟨b', hb'⟩ => ⟨b', ?_⟩) id
        simp only [Gh.born]
        rw [List.getElem?_set_ne (fun e => by subst e; rw [u1] at hb'; cases hb')]; exact hb'

end
end Go.Wn

namespace Go.Wn
open Go

section
variable {E : Env} {C : Handler} {K : Ctx} {f rid : Nat} {ops : Array Oper}

theorem al_run : ∀ (al : List Nat) (st s1 : St), al.Nodup → (∀ i ∈ al, ∃ o t, ops[i]? = some o ∧ o.op = .alloc t ∧ o.guard = none) → K.ro ≤ st.m.h.length → evOps E C K f rid false ops al st = some s1 →
    ∃ zs : List (List V), zs.length = al.length ∧ s1.m = ⟨st.m.lm, st.m.h ++ zs.map Blk.var⟩ ∧ HInv K st.m.h s1.m.h ∧
      (∀ (k i : Nat), al[k]? = some i → ∃ o t z, ops[i]? = some o ∧ o.op = .alloc t ∧ zs[k]? = some z ∧ zeroCells E.Q (E.nilF f) t = some z) ∧
      (∀ t : Nat, (∀ i ∈ al, ∀ o, ops[i]? = some o → o.dst ≠ some t) → rd s1.fr t = rd st.fr t) ∧
      (∀ (k i : Nat) (o : Oper) (t : Nat), al[k]? = some i → ops[i]? = some o → o.dst = some t → (∀ (i' : Nat) (o' : Oper), i' ≠ i → i' ∈ al → ops[i']? = some o' → o'.dst ≠ some t) → rd s1.fr t = .ptr (st.m.h.length + k) 0)
  | [], st, s1, _, _, _, h => by
    simp only [evOps, Option.some.injEq] at h
    subst h
    exact ⟨[], rfl, by simp, .refl _ _, fun k i h => by simp at h, fun _ _ => rfl, fun k i o t h => by simp at h⟩
  | i :: al, st, s1, hnd, hal, hro, h => by
    obtain ⟨o, t, ho, hop, hg⟩ := hal i (by simp)
    have hw : wantedV ops st.fr o = some true := by unfold wantedV; rw [hg]
    simp only [evOps, ho, hw, Option.bind_eq_some_iff] at h
    obtain ⟨r, hev, h⟩ := h
    simp only [evOp, hop, Option.bind_eq_some_iff] at hev
    obtain ⟨z, hz, hev⟩ := hev
    split at hev
    · rename_i hok
      simp only [newVarV, Bool.not_false, Bool.true_or, if_true, Option.some.injEq] at hev
      subst hev
      rw [List.nodup_cons] at hnd
      obtain ⟨zs, p1, p2, p3, p4, p5, p6⟩ := al_run al _ s1 hnd.2 (fun i hi => hal i (by simp [hi])) (by simp; omega) h
      refine ⟨z :: zs, by simp [p1], by rw [p2]; simp, (HInv.snoc hro (x := .var z) (lfL_of_ok hok)).trans p3, fun k j hk => ?_, fun t' ht => ?_, fun k j oj t' hk hoj hd hu => ?_⟩
      · cases k with
        | zero => simp at hk; subst hk; exact ⟨o, t, z, ho, hop, by simp, hz⟩
        | succ k =>
          obtain ⟨o', t', z', q1, q2, q3, q4⟩ := p4 k j (by simpa using hk)
          exact ⟨o', t', z', q1, q2, by simpa using q3, q4⟩
      · rw [p5 t' fun j hj => ht j (by simp [hj])]
        exact putF_ne (ht i (by simp) o ho)
      · cases k with
        | zero =>
          simp at hk; subst hk
          rw [ho] at hoj; simp only [Option.some.injEq] at hoj; subst hoj
          rw [p5 t' fun j hj oj hoj => hu j oj (fun e => hnd.1 (e ▸ hj)) (by simp [hj]) hoj]
          simp only [hd, putF_at, Nat.add_zero]
        | succ k =>
          rw [p6 k j oj t' (by simpa using hk) hoj hd fun i' o' h1 h2 => hu i' o' h1 (by simp [h2])]
          simp only [List.length_append, List.length_singleton]
          rw [show st.m.h.length + 1 + k = st.m.h.length + (k + 1) from by omega]
    · cases hev
end

theorem constCell_rb (nf : Bool) (x : Value) : rb 0 (constCell nf x) = true := by
  unfold constCell
  split <;> first | rfl | (split <;> rfl)

theorem zeroCells_rb {Q : Tab} {nf : Bool} {t : TypeId} {z : List V} (h : zeroCells Q nf t = some z) : rbL 0 z = true := by
  unfold zeroCells at h
  split at h
  · simp only [Option.some.injEq] at h
    subst h
    rw [rbL_all, List.all_eq_true]
    intro x hx
    simp only [List.mem_map] at hx
    obtain ⟨y, _, rfl⟩ := hx
    exact constCell_rb nf y
  · cases h

theorem unborns {Cx : Nat → Nat} {w : World} {tm : Array Value} {fr : Fr} : ∀ (zs : List (List V)) (g : Gh) (m : Mem), (∀ z ∈ zs, rbL 0 z = true) → Rel Cx g w tm fr m → ∃ g', Rel Cx g' w tm fr ⟨m.lm, m.h ++ zs.map Blk.var⟩ ∧ GhLe g g' ∧ g'.X = g.X ∧ (∀ b, b < m.h.length → g'.ρ[b]? = g.ρ[b]?) ∧
    ∀ (k : Nat) (z : List V), zs[k]? = some z → g'.ρ[m.h.length + k]? = some none ∧ (g'.z (m.h.length + k)).1 = z
  | [], g, m, _, h => ⟨g, by simpa using h, .refl g, rfl, fun _ _ => rfl, fun k z hk => by simp at hk⟩
  | z :: zs, g, m, hz, h => by
    obtain ⟨h1, h2⟩ := h.unborn ⟨z, hz z (by simp)⟩
    obtain ⟨g', p1, p2, p3, p4, p5⟩ := unborns zs _ _ (fun z h => hz z (by simp [h])) h1
    refine ⟨g', by simpa using p1, h2.trans p2, p3, fun b hb => ?_, fun k z' hk => ?_⟩
    · rw [p4 b (by simp; omega)]
      simp only [Gh.later]
      rw [List.getElem?_append_left (by rw [h.hp.len]; exact hb)]
    · cases k with
      | zero =>
        simp at hk; subst hk
        have e : (g.later m.h ⟨z, hz z (by simp)⟩).ρ[m.h.length]? = some none := by
          simp only [Gh.later]
          rw [← h.hp.len]; simp
        refine ⟨by rw [Nat.add_zero, p4 _ (by simp)]; exact e, ?_⟩
        rw [Nat.add_zero, (p2.un _ e).2]
        simp [Gh.later]
      | succ k =>
        have := p5 k z' (by simpa using hk)
        simp only [List.length_append, List.length_singleton] at this
        rw [show m.h.length + (k + 1) = m.h.length + 1 + k from by omega]
        exact this

theorem Rel.congr_fr {Cx : Nat → Nat} {g : Gh} {w : World} {tm : Array Value} {fr fr' : Fr} {m : Mem} (h : Rel Cx g w tm fr m) (he : ∀ t, rd fr' t = rd fr t) : Rel Cx g w tm fr' m where
  hp := h.hp
  lm := h.lm
  cnew := h.cnew
  frm := fun t => by rw [he]; exact h.frm t
  one := fun B => by
    have := h.one B
    have e : fcnt B fr' tm = fcnt B fr tm := by
      unfold fcnt
      exact Sm_congr fun t _ => by rw [he]
    rw [e]; exact this

section
variable {P : Program} {E : Env} {C : Handler} {K : Ctx} {Cx : Nat → Nat} {f rid : Nat} {ops : Array Oper} {Q : Exit → Act → World → Prop} {T : Nat → St} {s0 : St} {al : List Nat} {zs : List (List V)} {g0 : Gh} {w0 : World} {N : Nat} {ds : List Deferred}

theorem binds_any {md : Region.Mode} {e : Edge} (h : Region.binds .any e = true) : Region.binds md e = true := by
  unfold Region.binds at h ⊢
  split
  · rename_i r hr; rw [hr] at h; simp at h
  · rename_i r hr; rw [hr] at h; simp at h
  · rfl

theorem stuck_any {ops : Array Oper} (hE : edgesOk ops = true) : ∀ (listed : Array Bool), listed.size = ops.size → Region.ready .any ops listed = [] → ∀ i, i < ops.size → listed.getD i false = true := by
  intro listed hs hr i
  induction i using Nat.strongRecOn with
  | _ i ih =>
    intro hi
    cases e : listed.getD i false with
    | true => rfl
    | false =>
      exfalso
      have : i ∈ Region.ready .any ops listed := by
        rw [mem_ready]
        refine ⟨?_, ops[i], by simp [hi], fun e' he' hb => ?_⟩
        · rw [Array.getD_eq_getD_getElem?, Array.getElem?_eq_getElem (by omega)] at e ⊢
          exact e
        · have h2 := edgesOk_spec hE (j := i) (o := ops[i]) (by simp [hi]) (e := e') (by simpa using he') hb
          exact ih e'.on h2 (by omega)
      rw [hr] at this
      cases this

theorem topo_stuck {md : Region.Mode} {ops : Array Oper} {listed : Array Bool} (hs : listed.size = ops.size) (hr : Region.ready md ops listed = []) : ∀ (l dn : List Nat), topoOk md ops dn l = true → (∀ i ∈ dn, listed.getD i false = true) → ∀ i ∈ l, listed.getD i false = true
  | [], _, _, _, i, hi => by cases hi
  | k :: l, dn, h, hd, i, hi => by
    simp only [topoOk, Bool.and_eq_true] at h
    obtain ⟨h1, h2⟩ := h
    have hk : listed.getD k false = true := by
      split at h1
      · rename_i o ho
        cases e : listed.getD k false with
        | true => rfl
        | false =>
          exfalso
          have hlt : k < listed.size := by rw [hs]; exact size_of ho
          have : k ∈ Region.ready md ops listed := by
            rw [mem_ready]
            refine ⟨?_, o, ho, fun e' he' hb => ?_⟩
            · rw [Array.getD_eq_getD_getElem?, Array.getElem?_eq_getElem hlt] at e ⊢
              exact e
            · rw [List.all_eq_true] at h1
              have h3 := h1 e' (by simpa using he')
              simp only [hb, Bool.not_true, Bool.false_or, List.contains_iff_mem] at h3
              exact hd _ h3
          rw [hr] at this
          cases this
      · cases h1
    have hd' : ∀ j ∈ k :: dn, listed.getD j false = true := fun j hj => by
      rcases List.mem_cons.1 hj with e | hj
      · rw [e]; exact hk
      · exact hd j hj
    rcases List.mem_cons.1 hi with e | hi
    · rw [e]; exact hk
    · exact topo_stuck hs hr l (k :: dn) h2 hd' i hi

theorem stuck_mode {md : Region.Mode} {ops : Array Oper} (h : modeOk md ops = true) : ∀ (listed : Array Bool), listed.size = ops.size → Region.ready md ops listed = [] → ∀ i, i < ops.size → listed.getD i false = true := by
  intro listed hs hr i hi
  unfold modeOk at h
  simp only [Bool.and_eq_true, List.all_eq_true, List.contains_iff_mem] at h
  exact topo_stuck hs hr _ [] h.1 (fun i hi => by cases hi) i (h.2 i (List.mem_range.2 hi))

theorem draw_any (hQ : TabOk P E.Q) (hC : CallOk P E C) (hT : Text E C K f rid ops T s0 al zs) (hD : ∀ B, w0.heap.size ≤ B → D0 K Cx g0 w0 s0.m B = 0) (hro : K.ro ≤ s0.m.h.length) (h0l : g0.ρ.length ≤ s0.m.h.length) (hdst : ∀ (i : Nat) (o : Oper) (t : Nat), ops[i]? = some o → o.dst = some t → t < N)
    (hfin : ∀ a w, (∃ g fr c, DI E K Cx ops T s0 al zs g0 w0 N ds (fun i => i < ops.size) a w g fr c) → Q .normal a w) :
    ∀ (md : Region.Mode), (∀ (listed : Array Bool), listed.size = ops.size → Region.ready md ops listed = [] → ∀ i, i < ops.size → listed.getD i false = true) →
    ∀ (fuel : Nat) (listed : Array Bool) (a : Act) (w : World), listed.size = ops.size → Sm ops.size (fun i => if listed.getD i false then 0 else 1) ≤ fuel → (∃ g fr c, DI E K Cx ops T s0 al zs g0 w0 N ds (fun i => listed.getD i false = true) a w g fr c) →
      wpAny P md ops Q fuel listed a w := by
  intro md stuck
  have full : ∀ (listed : Array Bool) (a : Act) (w : World), listed.size = ops.size → (∀ i, i < ops.size → listed.getD i false = true) → (∃ g fr c, DI E K Cx ops T s0 al zs g0 w0 N ds (fun i => listed.getD i false = true) a w g fr c) → Q .normal a w := by
    intro listed a w hs hall hI
    refine hfin a w ?_
    have : (fun i => listed.getD i false = true) = fun i => i < ops.size := by
      funext i
      simp only [eq_iff_iff]
      refine ⟨fun h => ?_, hall i⟩
      rcases Nat.lt_or_ge i ops.size with h' | h'
      · exact h'
      · rw [Array.getD_eq_getD_getElem?, Array.getElem?_eq_none (by omega)] at h
        simp at h
    rw [this] at hI
    exact hI
  intro fuel
  induction fuel with
  | zero =>
    intro listed a w hs hf hI
    have hall : ∀ i, i < ops.size → listed.getD i false = true := fun i hi => by
      have := Sm_get (n := ops.size) (d := i) (f := fun i => if listed.getD i false then 0 else 1) hi
      cases e : listed.getD i false with
      | true => rfl
      | false => simp only [e, Bool.false_eq_true, if_false] at this; omega
    refine ⟨?_, full listed a w hs hall hI⟩
    cases hr : Region.ready md ops listed with
    | nil => rfl
    | cons x xs =>
      exfalso
      have : x ∈ Region.ready md ops listed := by rw [hr]; simp
      rw [mem_ready] at this
      obtain ⟨h1, o, ho, _⟩ := this
      have h2 := hall x (size_of ho)
      have hlt : x < listed.size := by rw [hs]; exact size_of ho
      rw [Array.getD_eq_getD_getElem?, Array.getElem?_eq_getElem hlt] at h1 h2
      simp only [Option.getD_some] at h1 h2
      rw [h1] at h2; cases h2
  | succ fuel ih =>
    intro listed a w hs hf hI
    refine ⟨fun hr => full listed a w hs (stuck listed hs hr) hI, fun j hjr => ?_⟩
    rw [mem_ready] at hjr
    obtain ⟨h1, oj, hoj, hpre⟩ := hjr
    have hjs := size_of hoj
    have hlt : j < listed.size := by rw [hs]; exact hjs
    have hj : ¬ listed.getD j false = true := by
      rw [Array.getD_eq_getD_getElem?, Array.getElem?_eq_getElem hlt] at h1 ⊢
      simp only [Option.getD_some] at h1 ⊢
      rw [h1]; simp
    have hr : ∀ o, ops[j]? = some o → ∀ e ∈ o.after.toList, Region.binds .any e = true → listed.getD e.on false = true := fun o ho e he hb => by
      rw [hoj] at ho; simp only [Option.some.injEq] at ho; subst ho
      exact hpre e (by simpa using he) (binds_any hb)
    have eL : (fun i => (listed.setIfInBounds j true).getD i false = true) = fun i => listed.getD i false = true ∨ i = j := by
      funext i
      simp only [eq_iff_iff]
      by_cases e : i = j
      · subst e; simp [hlt]
      · rw [Go.getD_set_ne false (Ne.symm e)]
        exact ⟨.inl, fun h => h.resolve_right e⟩
    have hnext : ∀ a' w', (∃ g' fr' c', DI E K Cx ops T s0 al zs g0 w0 N ds (fun i => listed.getD i false = true ∨ i = j) a' w' g' fr' c') → wpAny P md ops Q fuel (listed.setIfInBounds j true) a' w' := fun a' w' h => by
      refine ih _ a' w' (by simp [hs]) ?_ (by rw [eL]; exact h)
      have hu := Sm_upd (n := ops.size) (d := j) (f := fun i => if listed.getD i false then 0 else 1) (f' := fun i => if (listed.setIfInBounds j true).getD i false then 0 else 1) hjs (fun i hi => by
        simp only [Go.getD_set_ne false (Ne.symm hi)])
      have e1 : (listed.setIfInBounds j true).getD j false = true := by simp [hlt]
      have e2 : listed.getD j false = false := by simpa using hj
      simp only [e1, e2, if_true, Bool.false_eq_true, if_false] at hu
      omega
    obtain ⟨g, fr, c, hI⟩ := hI
    unfold wpOp
    simp only [hoj]
    obtain ⟨o, ho, hst⟩ := hT.step j hjs
    rw [hoj] at ho; simp only [Option.some.injEq] at ho; subst ho
    rcases hst with ⟨ha, _⟩ | ⟨ha, hw, _⟩ | ⟨ha, hw, r, hev, _, _⟩
    · obtain ⟨q1, q2⟩ := hT.make hI hj hr hoj hQ hD hro h0l ha (fun t => hdst j oj t hoj) _ Q hnext
      rw [if_pos q1]
      exact .inl q2
    · obtain ⟨q1, q2⟩ := hT.skip hI hj hr hoj hw ha (fun t => hdst j oj t hoj)
      rw [q1]
      simp only [Bool.false_eq_true, if_false]
      exact hnext _ _ q2
    · obtain ⟨q1, q2⟩ := hT.exec hQ hC hI hj hr hoj ⟨hoj, ha, hw, hev⟩ (fun t => hdst j oj t hoj) _ Q hnext
      rw [if_pos q1]
      exact .inl q2

theorem hcnt_take_lt {g : Gh} {w : World} {tm : Array Value} {fr : Fr} {m : Mem} (h : Rel Cx g w tm fr m) {B : Nat} (hB : w.heap.size ≤ B) : D0 K Cx g w m B = 0 := by
  have h1 := (RelV.of_rel h).cnt_lt hB
  have h2 := hcnt_take_le (B := B) (k := K.ro) (w := w) (h := m.h) (ρ := g.ρ)
  unfold D0
  omega

theorem dn_wf (hP : CallPure E C) {h0 : Heap} {n : Nat} (h1 : HInv K h0 (T 0).m.h) (hw : Wf K h0) (hs : ∀ i, i < n → DStep E C K f rid ops i (T i) (T (i + 1))) : ∀ i, i ≤ n → HInv K h0 (T i).m.h ∧ Wf K (T i).m.h
  | 0, _ => ⟨h1, h1.wf hw⟩
  | i + 1, hi => by
    obtain ⟨p1, p2⟩ := dn_wf hP h1 hw hs i (by omega)
    have key : HInv K (T i).m.h (T (i + 1)).m.h := by
      obtain ⟨o, ho, hst⟩ := hs i (by omega)
      rcases hst with ⟨_, e⟩ | ⟨_, _, e⟩ | ⟨_, _, r, hev, _, e⟩
      · rw [e]; exact .refl _ _
      · rw [e]; exact .refl _ _
      · rw [e]
        show HInv K _ (if clsOf E o = 3 then r.m else (T i).m).h
        split
        · exact (evOp_inv hP (Nat.le_trans p2.ro p2.base) hev).inv
        · exact .refl _ _
    exact ⟨p1.trans key, key.wf p2⟩

theorem evRegion_draw (hQ : TabOk P E.Q) (hC : CallOk P E C) (hP : CallPure E C) {a : Act} {w : World} {g : Gh} {st st' : St} (hdk : E.dok f rid = true → drawOk E ops = true) (he : evRegion E C K f rid ops true st = some st') (hr : Rel Cx g w a.tmps st.fr st.m) (hK : Wf K st.m.h)
    (hdst : ∀ (i : Nat) (o : Oper) (t : Nat), ops[i]? = some o → o.dst = some t → t < a.tmps.size) (hQn : ∀ a' w', Fin Cx K g w st.m a st' a' w' → Q .normal a' w') : (Code.region rid ops true).wp P Q a w := by
  unfold evRegion at he
  simp only [if_true] at he
  split at he
  · rename_i hok
    have hdo := DOk.of (hdk hok)
    simp only [Option.bind_eq_some_iff] at he
    obtain ⟨s1, hs1, hs2⟩ := he
    have hro : K.ro ≤ st.m.h.length := Nat.le_trans hK.ro hK.base
    have hal : ∀ i ∈ (List.range ops.size).filter (fun i => (ops[i]?).any isAlloc), ∃ o t, ops[i]? = some o ∧ o.op = .alloc t ∧ o.guard = none := fun i hi => by
      rw [List.mem_filter] at hi
      have h2 := hi.2
      cases ho : ops[i]? with
      | none => rw [ho] at h2; cases h2
      | some o =>
        rw [ho] at h2
        simp only [Option.any_some] at h2
        have h3 := (hdo.al i o ho (isAlloc_iff.1 h2)).1
        unfold isAlloc at h2
        split at h2
        · rename_i t hop; exact ⟨o, t, rfl, hop, h3⟩
        · cases h2
    obtain ⟨zs, p1, p2, p3, p4, p5, p6⟩ := al_run (K := K) _ st s1 (List.nodup_range.filter _) hal hro hs1
    generalize hale : (List.range ops.size).filter (fun i => (ops[i]?).any isAlloc) = al at *
    rw [List.range_eq_range'] at hs2
    obtain ⟨T, hTr⟩ := evDraw_run _ _ _ _ _ _ hs2
    have hT0 : T 0 = s1 := hTr.first
    have hTn : T ops.size = st' := by have := hTr.last; rwa [Nat.zero_add] at this
    have halm : ∀ (i : Nat) (o : Oper), ops[i]? = some o → isAlloc o = true → i ∈ al := fun i o ho ha => by
      rw [← hale, List.mem_filter]
      exact ⟨List.mem_range.2 (size_of ho), by rw [ho]; exact ha⟩
    have hala : ∀ i ∈ al, ∀ o, ops[i]? = some o → isAlloc o = true := fun i hi o ho => by
      rw [← hale, List.mem_filter] at hi
      have := hi.2
      rw [ho] at this; exact this
    have hchain := dn_wf (K := K) (f := f) (rid := rid) (ops := ops) (T := T) hP (h0 := st.m.h) (n := ops.size) (by rw [hT0]; exact p3) hK fun i hi => hTr.step i (by omega) (by omega)
    have hT : Text E C K f rid ops T st al zs := {
      ok := hdo
      pure := hP
      step := fun i hi => hTr.step i (by omega) (by omega)
      re1 := fun i o r hi hd h1 j oj rj hji hdj h3 => hTr.re1 i o r (by omega) (by omega) hd h1 j oj rj (by omega) hji hdj h3
      re3 := fun i o r hi hd h1 j oj rj hji hdj h3 => hTr.re3 i o r (by omega) (by omega) hd h1 j oj rj (by omega) hji hdj h3
      wf := fun i hi => (hchain i hi).2
      inv := fun i hi => (hchain i hi).1
      zl := p1
      alm := fun i o ho ha => List.getElem?_of_mem (halm i o ho ha)
      ala := p4
      off := fun t ht => by rw [hT0]; exact p5 t fun i hi o ho => ht i o ho (hala i hi o ho)
      at_ := fun k i o t hk ho hd hu => by rw [hT0]; exact p6 k i o t hk ho hd fun i' o' h1 h2 h3 => hu i' o' h1 h3 (hala i' h2 o' h3) }
    have hzr : ∀ z ∈ zs, rbL 0 z = true := fun z hz => by
      obtain ⟨k, hk⟩ := List.getElem?_of_mem hz
      have hkl := lt_of_get hk
      obtain ⟨o, t, z', q1, q2, q3, q4⟩ := p4 k al[k] (by simp [← p1, hkl])
      rw [hk] at q3
      simp only [Option.some.injEq] at q3
      subst q3
      exact zeroCells_rb q4
    have main0 : ∀ md, (∀ (listed : Array Bool), listed.size = ops.size → Region.ready md ops listed = [] → ∀ i, i < ops.size → listed.getD i false = true) → wpAny P md ops Q ops.size (Array.replicate ops.size false) a w.drew := by
      intro md hst
      obtain ⟨g', q1, q2, q3, q4, q5⟩ := unborns zs g st.m hzr hr.drew
      have st0 : Stp (D0 K Cx g w.drew st.m) g w.drew g' w.drew := ⟨by rw [q3]; exact .refl _ _, .refl _, fun B _ => ⟨rfl, by rw [q3]⟩, q2, rfl, rfl, rfl, Nat.le_refl _⟩
      refine draw_any hQ hC (g0 := g) (w0 := w.drew) (N := a.tmps.size) (ds := a.defers) hT (fun B hB => hcnt_take_lt hr.drew hB) hro (by rw [hr.hp.len]; omega) hdst (fun a' w' hI => ?_) md hst ops.size _ a w.drew (by simp) ?_ ⟨g', st.fr, 0, ?_⟩
      · obtain ⟨g1, fr1, c, hI⟩ := hI
        have hmem : st'.m = (T c).m := by
          rw [← hTn]
          refine hT.mem_same hI.cn (Nat.le_refl _) fun i h1 h2 hP => ?_
          obtain ⟨o, r, hd, h3⟩ := hP
          exact hI.cut2 i o h1 hd.1 h3 h2
        have hfr : ∀ t, rd st'.fr t = rd fr1 t := fun t => by
          rcases hI.slots t with ⟨i, o, ho, _, _, hn, _⟩ | ⟨_, k, hk, e, _, h2⟩
          · exact absurd (size_of ho) hn
          · rw [e, ← hTn]
            refine chain (fun i => rd (T i).fr t) hk fun i h3 h4 => ?_
            exact Classical.not_not.1 fun ht => h2 i h3 h4 ht h4
        refine hQn a' w' ⟨g1, by rw [hmem]; exact hI.rel.congr_fr hfr, ⟨(Stp.drew _ g w).trans hI.stp, hI.old, by rw [← hTn]; exact hT.inv _ (Nat.le_refl _)⟩, hI.size, hI.defs⟩
      · refine Nat.le_trans (Sm_le (f := fun _ => 1) fun i hi => by split <;> omega) ?_
        have : ∀ n, Sm n (fun _ => 1) = n := by
          intro n
          induction n with
          | zero => rfl
          | succ n ih => simp [Sm, ih]
        rw [this]; exact Nat.le_refl _
      · have hno : ∀ i, ¬ (Array.replicate ops.size false).getD i false = true := fun i => by simp [Array.getD_eq_getD_getElem?, Array.getElem?_replicate]; split <;> simp
        have hT0m : (T 0).m = ⟨st.m.lm, st.m.h ++ zs.map Blk.var⟩ := by rw [hT0]; exact p2
        refine ⟨by rw [hT0m]; exact q1, Nat.zero_le _, fun i o hi => by omega, fun i o _ _ _ => hno i, fun t => ?_, fun k i z hk hz _ => q5 k z hz, st0, fun b hb => q4 b (by omega), IdL.empty hno _ _ _ _, rfl, rfl, fun j o hj => absurd hj (hno j)⟩
        by_cases hex : ∃ (i : Nat) (o : Oper), ops[i]? = some o ∧ isAlloc o = true ∧ o.dst = some t
        · obtain ⟨i, o, h1, h2, h3⟩ := hex
          exact .inl ⟨i, o, h1, h2, h3, hno i, rfl⟩
        · refine .inr ⟨fun i o h1 h2 h3 => absurd ⟨i, o, h1, h2, h3⟩ hex, 0, Nat.zero_le _, ?_, fun i hi => by omega, fun i _ _ _ => hno i⟩
          exact (hT.off t fun i o h1 h2 h3 => hex ⟨i, o, h1, h2, h3⟩).symm
    refine wp_region_draw fun t => ?_
    have main : ∀ md, (∀ (listed : Array Bool), listed.size = ops.size → Region.ready md ops listed = [] → ∀ i, i < ops.size → listed.getD i false = true) → ∀ t, wpOps P ops Q (Region.linearise md ops t) a w.drew := fun md hst t => wpAny_sound ops.size t _ a _ (main0 md hst)
    show wpOps P ops Q (Region.schedule (P.follows .mixedOrders) ops t) a w.drew
    unfold Region.schedule
    split
    · exact main .any (stuck_any hdo.edges) t
    · rename_i hnd
      have hdep : Region.departs ops = true := by
        cases e : Region.departs ops with
        | true => rfl
        | false => simp [e] at hnd
      have hmo := hdo.edges
      unfold edgesOk at hmo
      simp only [Bool.and_eq_true, hdep, Bool.not_true, Bool.false_or] at hmo
      split
      · exact main .text (stuck_mode hmo.2.1) (t / 2)
      · exact main .gc (stuck_mode hmo.2.2) (t / 2)
  · cases he

theorem evRegion_sound (hQ : TabOk P E.Q) (hC : CallOk P E C) (hP : CallPure E C) {a : Act} {w : World} {g : Gh} {st st' : St} {draw : Bool} (hdk : draw = true → E.dok f rid = true → drawOk E ops = true) (he : evRegion E C K f rid ops draw st = some st') (hr : Rel Cx g w a.tmps st.fr st.m) (hK : Wf K st.m.h)
    (hdst : ∀ (i : Nat) (o : Oper) (t : Nat), ops[i]? = some o → o.dst = some t → t < a.tmps.size) (hQn : ∀ a' w', Fin Cx K g w st.m a st' a' w' → Q .normal a' w') : (Code.region rid ops draw).wp P Q a w := by
  cases draw with
  | true => exact evRegion_draw hQ hC hP (hdk rfl) he hr hK hdst hQn
  | false =>
    unfold evRegion at he
    simp only [Bool.false_eq_true, if_false] at he
    refine wp_region ?_
    rw [List.range_eq_range'] at he ⊢
    exact evOps_seq hQ hC hP ops.size 0 a w g st st' he hr hK (IdL.empty (fun i => by omega) _ _ _ _) hdst hQn

end
end Go.Wn

namespace Go.Wn
open Go

theorem RepV.rb_ {g : Gh} {w : World} {n : Nat} (hs : ∀ b z, g.sh b = some z → b < n) (hl : g.ρ.length ≤ n) {v : V} {y : Value} (h : RepV g w v y) : rb n v = true := by
  have lst : ∀ cs : List V, (∀ (j : Nat) (c : V), cs[j]? = some c → Wn.rb n c = true) → rbL n cs = true := fun cs h => by
    rw [rbL_all, List.all_eq_true]
    intro x hx
    obtain ⟨j, hj⟩ := List.getElem?_of_mem hx
    exact h j x hj
  induction h with
  | p x y h => rfl
  | own0 a => rfl
  | own es cap sz B hne h hz ho => rfl
  | agg cs ys hl' h ih => exact lst cs fun j c hj => ih j c hj
  | tup cs ys hl' h ih => exact lst cs fun j c hj => ih j c hj
  | lptr b j B h => rfl
  | ptr b j B hs' h => have := lt_of_get h; simp only [Wn.rb, decide_eq_true_eq]; omega
  | aptr b i j ver sz k y hy hs' hv h => have := hs b _ hs'; simp only [Wn.rb, decide_eq_true_eq]; exact this
  | sl b off len ver sz k ad cap hl' hs' hv h => have := hs b _ hs'; simp only [Wn.rb, decide_eq_true_eq]; exact this
  | mp b R hs' h => have := lt_of_get h; simp only [Wn.rb, decide_eq_true_eq]; omega
  | clo f fs bs xs ys ha hb o1 o2 h1 h2 ih1 ih2 =>
    simp only [Wn.rb, Bool.and_eq_true]
    exact ⟨lst fs fun j c hj => ih1 j c hj, lst bs fun j c hj => ih2 j c hj⟩
  | und y => rfl
  | nov => rfl

/-- every reference in the heap is to a block of it -/
theorem Rel.rbAll {Cx : Nat → Nat} {g : Gh} {w : World} {tm : Array Value} {fr : Fr} {m : Mem} (h : Rel Cx g w tm fr m) (b : Nat) (x : Blk) (hx : m.h[b]? = some x) : blkRb m.h.length x = true := by
  have hs : ∀ b z, g.sh b = some z → b < m.h.length := fun b z e => by rw [h.hp.sh] at e; exact shp_lt e
  have hl : g.ρ.length ≤ m.h.length := by rw [h.hp.len]; exact Nat.le_refl _
  have hb := lt_of_get hx
  have lst : ∀ cs : List V, (∀ (j : Nat) (c : V), cs[j]? = some c → rb m.h.length c = true) → rbL m.h.length cs = true := fun cs h => by
    rw [rbL_all, List.all_eq_true]
    intro x hx
    obtain ⟨j, hj⟩ := List.getElem?_of_mem hx
    exact h j x hj
  cases hr : g.ρ[b]? with
  | none => rw [List.getElem?_eq_none_iff, h.hp.len] at hr; omega
  | some r =>
    cases r with
    | none =>
      have := h.hp.un b hr
      rw [hx] at this
      simp only [Option.some.injEq] at this
      subst this
      exact rbL_mono (Nat.zero_le _) _ (g.z b).2
    | some R =>
      obtain ⟨_, h1⟩ := h.hp.blk b x R hx hr
      cases x with
      | var cs =>
        obtain ⟨ys, T, _, _, hc⟩ := h1
        exact lst cs fun j c hj => (hc j c hj).rb_ hs hl
      | arr sz rs =>
        obtain ⟨ys, T, cap, _, _, _, _, hc⟩ := h1
        simp only [blkRb, List.all_eq_true]
        intro r hr
        obtain ⟨i, hi⟩ := List.getElem?_of_mem hr
        exact lst r fun j c hj => ((hc i r hi).2 j c hj).rb_ hs hl
      | map ks vs =>
        obtain ⟨es, ck, _, _, _, _, _, hc⟩ := h1
        exact lst vs fun i v hi => (hc i v hi).rb_ hs hl

mutual
theorem lf_lb (l : Nat) : ∀ v : V, lf v = true → lb l v = true
  | .lptr _ _, h => by simp [lf] at h
  | .agg cs, h => by simp only [lf, lb] at h ⊢; exact lfL_lb l cs h
  | .tup cs, h => by simp only [lf, lb] at h ⊢; exact lfL_lb l cs h
  | .clo _ a b, h => by simp only [lf, lb, Bool.and_eq_true] at h ⊢; exact ⟨lfL_lb l a h.1, lfL_lb l b h.2⟩
  | .ifc _ v, h => by simp only [lf, lb] at h ⊢; exact lf_lb l v h
  | .p _, _ => rfl
  | .own _, _ => rfl
  | .ptr _ _, _ => rfl
  | .aptr _ _ _ _, _ => rfl
  | .sl _ _ _ _, _ => rfl
  | .mp _, _ => rfl
  | .und, _ => rfl
  | .nov, _ => rfl
theorem lfL_lb (l : Nat) : ∀ vs : List V, lfL vs = true → lbL l vs = true
  | [], _ => rfl
  | v :: vs, h => by simp only [lfL, lbL, Bool.and_eq_true] at h ⊢; exact ⟨lf_lb l v h.1, lfL_lb l vs h.2⟩
end

theorem lbL_get {l : Nat} : ∀ (cs : List V) (j : Nat) (c : V), lbL l cs = true → cs[j]? = some c → lb l c = true
  | [], _, _, _, h => by simp at h
  | x :: xs, 0, c, h, e => by simp at e; subst e; simp only [lbL, Bool.and_eq_true] at h; exact h.1
  | x :: xs, j + 1, c, h, e => by simp only [lbL, Bool.and_eq_true] at h; exact lbL_get xs j c h.2 (by simpa using e)
theorem rbL_get {n : Nat} : ∀ (cs : List V) (j : Nat) (c : V), rbL n cs = true → cs[j]? = some c → rb n c = true
  | [], _, _, _, h => by simp at h
  | x :: xs, 0, c, h, e => by simp at e; subst e; simp only [rbL, Bool.and_eq_true] at h; exact h.1
  | x :: xs, j + 1, c, h, e => by simp only [rbL, Bool.and_eq_true] at h; exact rbL_get xs j c h.2 (by simpa using e)

def Gh.cut (g : Gh) (l n : Nat) (h : Heap) : Gh := { g with ρ := g.ρ.take n, lam := g.lam.take l, sh := shp (h.take n) }

theorem shp_take {h : Heap} {n b : Nat} (hb : b < n) : shp (h.take n) b = shp h b := by
  unfold shp
  rw [List.getElem?_take, if_pos hb]

theorem RepV.cut {g : Gh} {w : World} {l n : Nat} {h : Heap} (hsh : g.sh = shp h) {v : V} {y : Value} (hv : RepV g w v y) : rb n v = true → lb l v = true → RepV (g.cut l n h) w v y := by
  have tk : ∀ {b B : Nat}, b < n → g.ρ[b]? = some (some B) → (g.cut l n h).ρ[b]? = some (some B) := fun hb e => by
    show (g.ρ.take n)[_]? = _
    rw [List.getElem?_take, if_pos hb]; exact e
  have st : ∀ {b : Nat}, b < n → (g.cut l n h).sh b = g.sh b := fun hb => by
    show shp (h.take n) _ = _
    rw [shp_take hb, hsh]
  induction hv with
  | p x y h => exact fun _ _ => .p x y h
  | own0 a => exact fun _ _ => .own0 a
  | own es cap sz B hne h hz ho => exact fun _ _ => .own es cap sz B hne h hz ho
  | agg cs ys hl' h ih => exact fun e1 e2 => .agg cs ys hl' fun j c hj => ih j c hj (rbL_get cs j c (by simpa [rb] using e1) hj) (lbL_get cs j c (by simpa [lb] using e2) hj)
  | tup cs ys hl' h ih => exact fun e1 e2 => .tup cs ys hl' fun j c hj => ih j c hj (rbL_get cs j c (by simpa [rb] using e1) hj) (lbL_get cs j c (by simpa [lb] using e2) hj)
  | lptr b j B h =>
    intro _ e
    refine .lptr b j B ?_
    show (g.lam.take l)[b]? = _
    rw [List.getElem?_take, if_pos (by simpa [lb] using e)]; exact h
  | ptr b j B hs' h =>
    intro e _
    have hb : b < n := by simpa [rb] using e
    exact .ptr b j B (by rw [st hb]; exact hs') (tk hb h)
  | aptr b i j ver sz k y hy hs' hv h =>
    intro e _
    have hb : b < n := by simpa [rb] using e
    exact .aptr b i j ver sz k y hy (by rw [st hb]; exact hs') hv fun e => (h e).imp fun B hB => ⟨tk hb hB.1, hB.2⟩
  | sl b off len ver sz k ad cap hl' hs' hv h =>
    intro e _
    have hb : b < n := by simpa [rb] using e
    refine .sl b off len ver sz k ad cap hl' (by rw [st hb]; exact hs') hv fun e => ?_
    obtain ⟨B, ys, T, h1, h2⟩ := h e
    exact ⟨B, ys, T, tk hb h1, h2⟩
  | mp b R hs' h =>
    intro e _
    have hb : b < n := by simpa [rb] using e
    exact .mp b R (by rw [st hb]; exact hs') (tk hb h)
  | clo f fs bs xs ys ha hb o1 o2 h1 h2 ih1 ih2 =>
    intro e1 e2
    simp only [rb, lb, Bool.and_eq_true] at e1 e2
    exact .clo f fs bs xs ys ha hb o1 o2 (fun j c hj => ih1 j c hj (rbL_get fs j c e1.1 hj) (lbL_get fs j c e2.1 hj)) (fun j c hj => ih2 j c hj (rbL_get bs j c e1.2 hj) (lbL_get bs j c e2.2 hj))
  | und y => exact fun _ _ => .und y
  | nov => exact fun _ _ => .nov

theorem RepV.clr {g : Gh} {w : World} {l n : Nat} {h : Heap} (hsh : g.sh = shp h) {v : V} {y : Value} (hv : RepV g w v y) : RepV (g.cut l n h) w (clrR l n v) y := by
  unfold clrR
  split
  · rename_i e
    simp only [Bool.and_eq_true] at e
    exact hv.cut hsh e.1 e.2
  · exact .und y

theorem pm_und (B : Nat) (y : Value) : pm B .und y = 0 := by cases y <;> simp [pm]
theorem pm_clr (B l n : Nat) (v : V) (y : Value) : pm B (clrR l n v) y ≤ pm B v y := by
  unfold clrR
  split
  · exact Nat.le_refl _
  · rw [pm_und]; exact Nat.zero_le _
theorem pmL_clr (B l n : Nat) (ys : Array Value) : ∀ (cs : List V) (k : Nat), pmL B (cs.map (clrR l n)) ys k ≤ pmL B cs ys k
  | [], _ => Nat.le_refl _
  | c :: cs, k => by
    simp only [List.map_cons, pmL]
    exact Nat.add_le_add (pm_clr B l n c _) (pmL_clr B l n ys cs (k + 1))

theorem look_map (F : V → V) (t : Nat) (d : V) : ∀ l : List (Nat × V), look (l.map fun x => (x.1, F x.2)) t (F d) = F (look l t d)
  | [] => rfl
  | x :: xs => by
    simp only [List.map_cons, look]
    cases Nat.beq x.1 t
    · exact look_map F t d xs
    · rfl

theorem BlkRel.cut {g : Gh} {w : World} {l n R : Nat} {h : Heap} (hsh : g.sh = shp h) {x : Blk} (hx : BlkRel g w R x) (hl : blkLf x = true) (hr : blkRb n x = true) : BlkRel (g.cut l n h) w R x := by
  cases x with
  | var cs =>
    obtain ⟨ys, T, h1, h2, h3⟩ := hx
    exact ⟨ys, T, h1, h2, fun j c hj => (h3 j c hj).cut hsh (rbL_get cs j c hr hj) (lf_lb l _ (lfL_get cs j c hl hj))⟩
  | arr sz rs =>
    obtain ⟨ys, T, cap, h1, h2, h3, h4, h5⟩ := hx
    simp only [blkLf, blkRb, List.all_eq_true] at hl hr
    exact ⟨ys, T, cap, h1, h2, h3, h4, fun i r hi => ⟨(h5 i r hi).1, fun j c hj => ((h5 i r hi).2 j c hj).cut hsh (rbL_get r j c (hr r (List.mem_of_getElem? hi)) hj) (lf_lb l _ (lfL_get r j c (hl r (List.mem_of_getElem? hi)) hj))⟩⟩
  | map ks vs =>
    obtain ⟨es, ck, h1, h2, h3, h4, h5, h6⟩ := hx
    exact ⟨es, ck, h1, h2, h3, h4, h5, fun i v hi => (h6 i v hi).cut hsh (rbL_get vs i v hr hi) (lf_lb l _ (lfL_get vs i v hl hi))⟩

theorem hcnt_cut {B : Nat} {w : World} {h : Heap} {ρ : List (Option Nat)} {n : Nat} : hcnt B w (h.take n) (ρ.take n) ≤ hcnt B w h ρ := by
  refine Nat.le_trans (Nat.le_of_eq ?_) (hcnt_take_le (k := n))
  unfold hcnt
  refine Sm_congr fun b hb => ?_
  have hb' : b < n := by simp at hb; omega
  unfold hterm
  simp only [List.getD]
  rw [List.getElem?_take, if_pos hb']

theorem HeapRel.cut {g : Gh} {w : World} {h : Heap} (hr : HeapRel g w h) {l n : Nat} (hn : n ≤ h.length) (hlf : ∀ x ∈ h, blkLf x = true) (hrb : ∀ (b : Nat) (x : Blk), b < n → h[b]? = some x → blkRb n x = true) : HeapRel (g.cut l n h) w (h.take n) where
  sh := rfl
  len := by simp [Gh.cut, hr.len]
  blk := fun b x R hx hR => by
    have hR' : (g.ρ.take n)[b]? = some (some R) := hR
    rw [List.getElem?_take] at hx hR'
    split at hx
    · rename_i hb
      rw [if_pos hb] at hR'
      obtain ⟨h0, h1⟩ := hr.blk b x R hx hR'
      exact ⟨h0, h1.cut hr.sh (hlf x (List.mem_of_getElem? hx)) (hrb b x hb hx)⟩
    · cases hx
  un := fun b hR => by
    have hR' : (g.ρ.take n)[b]? = some none := hR
    rw [List.getElem?_take] at hR' ⊢
    split at hR'
    · rename_i hb
      rw [if_pos hb]
      exact hr.un b hR'
    · cases hR'
  new := hr.new

/-- what was made since is gone -/
theorem Rel.cut {Cx : Nat → Nat} {g : Gh} {w : World} {tm : Array Value} {fr : Fr} {m : Mem} (h : Rel Cx g w tm fr m) {l n : Nat} (hl : l ≤ m.lm.length) (hn : n ≤ m.h.length) (hlf : ∀ x ∈ m.h, blkLf x = true)
    (hrb : ∀ (b : Nat) (x : Blk), b < n → m.h[b]? = some x → blkRb n x = true) : Rel Cx (g.cut l n m.h) w tm (dropTo l n ⟨fr, m⟩).fr (dropTo l n ⟨fr, m⟩).m := by
  have hrd : ∀ t, rd (dropTo l n ⟨fr, m⟩).fr t = clrR l n (rd fr t) := fun t => look_map (clrR l n) t fr.d fr.l
  refine ⟨h.hp.cut hn hlf hrb, ⟨by simp [Gh.cut, dropTo, h.lm.len], fun b cs R hx hR => ?_⟩, fun t => by rw [hrd]; exact (h.frm t).clr h.hp.sh, fun B => ?_, h.cnew⟩
  · have hR' : (g.lam.take l)[b]? = some R := hR
    simp only [dropTo, List.getElem?_map, Option.map_eq_some_iff] at hx
    obtain ⟨cs', hx, rfl⟩ := hx
    rw [List.getElem?_take] at hx hR'
    split at hx
    · rename_i hb
      rw [if_pos hb] at hR'
      obtain ⟨h0, ys, T, h1, h2, h3⟩ := h.lm.box b cs' R hx hR'
      refine ⟨h0, ys, T, h1, by simpa using h2, fun j c hj => ?_⟩
      simp only [List.getElem?_map, Option.map_eq_some_iff] at hj
      obtain ⟨d, hd, rfl⟩ := hj
      exact (h3 j d hd).clr h.hp.sh
    · cases hx
  · have h1 := h.one B
    have h2 : hcnt B w (dropTo l n ⟨fr, m⟩).m.h (g.cut l n m.h).ρ ≤ hcnt B w m.h g.ρ := hcnt_cut
    have h3 : fcnt B (dropTo l n ⟨fr, m⟩).fr tm ≤ fcnt B fr tm := by
      unfold fcnt
      exact Sm_le fun t _ => by rw [hrd]; exact pm_clr B l n _ _
    have h4 : lcnt B w (dropTo l n ⟨fr, m⟩).m.lm (g.cut l n m.h).lam ≤ lcnt B w m.lm g.lam := by
      unfold lcnt
      have e : (dropTo l n ⟨fr, m⟩).m.lm.length = l := by simp [dropTo]; omega
      rw [e]
      refine Nat.le_trans (Sm_le (f := lterm B w m.lm g.lam) fun b hb => ?_) (Sm_mono_len hl)
      unfold lterm
      have e1 : (g.cut l n m.h).lam.getD b 0 = g.lam.getD b 0 := by
        simp only [Gh.cut, List.getD]
        rw [List.getElem?_take, if_pos hb]
      have e2 : (dropTo l n ⟨fr, m⟩).m.lm.getD b [] = (m.lm.getD b []).map (clrR l n) := by
        simp only [dropTo, List.getD, List.getElem?_map]
        rw [List.getElem?_take, if_pos hb]
        cases m.lm[b]? <;> rfl
      rw [e1, e2]
      exact Nat.add_le_add_left (pmL_clr B l n _ _ 0) _
    omega

theorem GhLe.cut {g0 g : Gh} (h : GhLe g0 g) {l n : Nat} {hp : Heap} (hsh : g.sh = shp hp) (hρ : g0.ρ.length ≤ n) (hl : g0.lam.length ≤ l) (hs : ∀ b z, g0.sh b = some z → b < n) : GhLe g0 (g.cut l n hp) where
  lam := fun b B e => by
    show (g.lam.take l)[b]? = _
    rw [List.getElem?_take, if_pos (by have := lt_of_get e; omega)]
    exact h.lam b B e
  pt := fun b B e1 e2 => by
    have hb : b < n := by have := lt_of_get e2; omega
    obtain ⟨p1, p2⟩ := h.pt b B e1 e2
    refine ⟨?_, ?_⟩
    · show shp (hp.take n) b = none
      rw [shp_take hb, ← hsh]; exact p1
    · show (g.ρ.take n)[b]? = _
      rw [List.getElem?_take, if_pos hb]; exact p2
  sh := fun b sz k e => by
    have hb := hs b _ e
    obtain ⟨k', p1, p2, p3⟩ := h.sh b sz k e
    refine ⟨k', ?_, p2, fun e' B hB => ?_⟩
    · show shp (hp.take n) b = _
      rw [shp_take hb, ← hsh]; exact p1
    · show (g.ρ.take n)[b]? = _
      rw [List.getElem?_take, if_pos hb]; exact p3 e' B hB
  un := fun b e => by
    have hb : b < n := by have := lt_of_get e; omega
    obtain ⟨p1, p2⟩ := h.un b e
    refine ⟨?_, p2⟩
    show (g.ρ.take n)[b]? = _
    rw [List.getElem?_take, if_pos hb]; exact p1

/-- a frame that knows less -/
theorem Rel.weak {Cx : Nat → Nat} {g : Gh} {w : World} {tm : Array Value} {fr fr' : Fr} {m : Mem} (h : Rel Cx g w tm fr m) (he : ∀ t, rd fr' t = rd fr t ∨ rd fr' t = .und) : Rel Cx g w tm fr' m where
  hp := h.hp
  lm := h.lm
  cnew := h.cnew
  frm := fun t => by
    rcases he t with e | e <;> rw [e]
    · exact h.frm t
    · exact .und _
  one := fun B => by
    have := h.one B
    have e : fcnt B fr' tm ≤ fcnt B fr tm := by
      unfold fcnt
      exact Sm_le fun t _ => by
        rcases he t with e | e <;> rw [e]
        · exact Nat.le_refl _
        · rw [pm_und]; exact Nat.zero_le _
    omega

theorem rd_mask (nv : Nat) (fr : Fr) (t : Nat) : rd (mask nv fr) t = rd fr t ∨ rd (mask nv fr) t = .und := by
  unfold mask
  have key : ∀ k, look (keepF fr k) t .und = rd fr t ∨ look (keepF fr k) t .und = .und := by
    intro k
    induction k with
    | zero => exact .inr rfl
    | succ k ih =>
      simp only [keepF, look]
      cases e : Nat.beq k t with
      | true =>
        have := Nat.eq_of_beq_eq_true e
        subst this
        exact .inl rfl
      | false => exact ih
  exact key nv

end Go.Wn

namespace Go.Wn
open Go

section
variable {E : Env} {C : Handler} {L : LHandler} {K : Ctx}

theorem evOps_inv (hP : CallPure E C) {f rid : Nat} {tk : Bool} {ops : Array Oper} : ∀ (l : List Nat) (st st' : St), evOps E C K f rid tk ops l st = some st' → K.ro ≤ st.m.h.length → HInv K st.m.h st'.m.h
  | [], st, st', h, _ => by simp only [evOps, Option.some.injEq] at h; subst h; exact .refl _ _
  | i :: l, st, st', h, hro => by
    simp only [evOps] at h
    split at h
    · cases h
    · split at h
      · simp only [Option.bind_eq_some_iff] at h
        obtain ⟨r, hev, h⟩ := h
        have h1 := (evOp_inv hP hro hev).inv
        exact h1.trans (evOps_inv hP l _ _ h (Nat.le_trans hro h1.len))
      · have h2 := evOps_inv hP l _ _ h hro
        exact h2
      · cases h

theorem dn_inv (hP : CallPure E C) {f rid : Nat} {ops : Array Oper} {T : Nat → St} {h0 : Heap} {n : Nat} (hro : K.ro ≤ h0.length) (h1 : HInv K h0 (T 0).m.h) (hs : ∀ i, i < n → DStep E C K f rid ops i (T i) (T (i + 1))) : ∀ i, i ≤ n → HInv K h0 (T i).m.h
  | 0, _ => h1
  | i + 1, hi => by
    have p1 := dn_inv hP hro h1 hs i (by omega)
    have key : HInv K (T i).m.h (T (i + 1)).m.h := by
      obtain ⟨o, ho, hst⟩ := hs i (by omega)
      rcases hst with ⟨_, e⟩ | ⟨_, _, e⟩ | ⟨_, _, r, hev, _, e⟩
      · rw [e]; exact .refl _ _
      · rw [e]; exact .refl _ _
      · rw [e]
        show HInv K _ (if clsOf E o = 3 then r.m else (T i).m).h
        split
        · exact (evOp_inv hP (Nat.le_trans hro p1.len) hev).inv
        · exact .refl _ _
    exact p1.trans key

theorem evRegion_inv (hP : CallPure E C) {f rid : Nat} {ops : Array Oper} {draw : Bool} {st st' : St} (h : evRegion E C K f rid ops draw st = some st') (hro : K.ro ≤ st.m.h.length) : HInv K st.m.h st'.m.h := by
  unfold evRegion at h
  split at h
  · split at h
    · simp only [Option.bind_eq_some_iff] at h
      obtain ⟨s1, hs1, hs2⟩ := h
      have h1 := evOps_inv hP _ _ _ hs1 hro
      rw [List.range_eq_range'] at hs2
      obtain ⟨T, hT⟩ := evDraw_run _ _ _ _ _ _ hs2
      have h2 := dn_inv hP (T := T) (n := ops.size) hro (by rw [hT.first]; exact h1) (fun i hi => hT.step i (by omega) (by omega)) ops.size (Nat.le_refl _)
      have := hT.last
      rw [Nat.zero_add] at this
      rw [this] at h2
      exact h2
    · cases h
  · exact evOps_inv hP _ _ _ h hro

def LoopPure (L : LHandler) : Prop := ∀ (K : Ctx) (f : FuncId) (body : Code) (st : St) (r : Ex × St), L K f body st = some r → K.ro ≤ st.m.h.length → HInv K st.m.h r.2.m.h

theorem evCode_inv (hP : CallPure E C) (hL : LoopPure L) {f : FuncId} : ∀ (c : Code) (st : St) (r : Ex × St), evCode E C L K f c st = some r → K.ro ≤ st.m.h.length → HInv K st.m.h r.2.m.h := by
  intro c
  induction c with
  | skip => intro st r h _; simp only [evCode, Option.some.injEq] at h; subst h; exact .refl _ _
  | region id ops draw =>
    intro st r h hro
    simp only [evCode, Option.map_eq_some_iff] at h
    obtain ⟨s, hs, rfl⟩ := h
    exact evRegion_inv hP hs hro
  | seq a b iha ihb =>
    intro st r h hro
    simp only [evCode, Option.bind_eq_some_iff] at h
    obtain ⟨q, hq, h⟩ := h
    have h1 := iha st q hq hro
    split at h
    · exact h1.trans (ihb _ _ h (Nat.le_trans hro h1.len))
    · simp only [Option.some.injEq] at h; subst h; exact h1
  | cond c a b iha ihb =>
    intro st r h hro
    simp only [evCode] at h
    split at h
    · exact iha st r h hro
    · exact ihb st r h hro
    · cases h
  | block id c ih =>
    intro st r h hro
    simp only [evCode, Option.map_eq_some_iff] at h
    obtain ⟨q, hq, rfl⟩ := h
    have h1 := ih st q hq hro
    split
    · split <;> exact h1
    · exact h1
  | loop c ih => intro st r h hro; exact hL K f c st r h hro
  | exit id => intro st r h _; simp only [evCode, Option.some.injEq] at h; subst h; exact .refl _ _
  | ret => intro st r h _; simp only [evCode, Option.some.injEq] at h; subst h; exact .refl _ _
  | rangeFunc _ _ _ _ => intro st r h _; simp [evCode] at h
  | scope _ => intro st r h _; simp [evCode] at h
  | label _ => intro st r h _; simp [evCode] at h
  | goto _ => intro st r h _; simp [evCode] at h
  | refuse _ => intro st r h _; simp [evCode] at h

theorem evLoop_inv (hP : CallPure E C) (hL : LoopPure L) : LoopPure (evLoop E C L) := by
  intro K f body st r h hro
  unfold evLoop at h
  simp only [Option.bind_eq_some_iff] at h
  obtain ⟨q, hq, h⟩ := h
  have hq' : HInv K st.m.h q.2.m.h := by
    split at hq
    · have h2 := evCode_inv hP hL _ _ _ hq hro
      exact h2
    · have h2 := (evCode_inv (K := ⟨K.ro, st.m.h.length⟩) hP hL _ _ _ hq hro).base_ (Nat.le_refl _)
      exact h2
  split at h
  · split at h
    · exact hq'.trans (hL _ _ _ _ _ h (Nat.le_trans hro hq'.len))
    · have h1 : HInv K st.m.h (dropTo st.m.lm.length st.m.h.length q.2).m.h := hq'.cut hro
      exact h1.trans (hL _ _ _ _ _ h (Nat.le_trans hro h1.len))
  · simp only [Option.some.injEq] at h; subst h; exact hq'
end

def exOf : Ex → Exit
  | .nrm => .normal
  | .ext i => .exit i
  | .ret => .ret

/-- what the code of a function must be like -/
def codeOk (E : Env) (f n : Nat) : Code → Bool
  | .region id ops draw => ops.toList.all (fun o => match o.dst with | some d => d < n | none => true) && (!draw || !E.dok f id || drawOk E ops)
  | .seq a b => codeOk E f n a && codeOk E f n b
  | .cond _ a b => codeOk E f n a && codeOk E f n b
  | .block _ c => codeOk E f n c
  | .loop c => codeOk E f n c
  | _ => true

def LoopOk (P : Program) (E : Env) (L : LHandler) : Prop :=
  ∀ (K : Ctx) (f : FuncId) (body : Code) (st : St) (r : Ex × St), L K f body st = some r → ∀ (Cx : Nat → Nat) (g : Gh) (w : World) (a : Act) (Q : Exit → Act → World → Prop), codeOk E f a.tmps.size body = true →
    Rel Cx g w a.tmps st.fr st.m → Wf K st.m.h → (∀ a' w', Fin Cx K g w st.m a r.2 a' w' → Q (exOf r.1) a' w') → (Code.loop body).wp P Q a w

section
variable {P : Program} {E : Env} {C : Handler} {L : LHandler} {Cx : Nat → Nat} {f : FuncId}

theorem evCode_sound (hQ : TabOk P E.Q) (hC : CallOk P E C) (hL : LoopOk P E L) (hP : CallPure E C) (hLP : LoopPure L) : ∀ (c : Code) (K : Ctx) (st : St) (r : Ex × St), evCode E C L K f c st = some r → ∀ (g : Gh) (w : World) (a : Act) (Q : Exit → Act → World → Prop), codeOk E f a.tmps.size c = true →
    Rel Cx g w a.tmps st.fr st.m → Wf K st.m.h → (∀ a' w', Fin Cx K g w st.m a r.2 a' w' → Q (exOf r.1) a' w') → c.wp P Q a w := by
  intro c
  induction c with
  | skip =>
    intro K st r h g w a Q _ hr _ hq
    simp only [evCode, Option.some.injEq] at h; subst h
    exact wp_skip (hq a w ⟨g, hr, .refl _ _ _ _ _, rfl, rfl⟩)
  | region id ops draw =>
    intro K st r h g w a Q hok hr hK hq
    simp only [evCode, Option.map_eq_some_iff] at h
    obtain ⟨s, hs, rfl⟩ := h
    simp only [codeOk, Bool.and_eq_true, List.all_eq_true] at hok
    refine evRegion_sound hQ hC hP (fun hd hk => ?_) hs hr hK (fun i o t ho hd => ?_) hq
    · have := hok.2
      simpa [hd, hk] using this
    · have := hok.1 o (List.mem_of_getElem? (by simpa using ho : ops.toList[i]? = some o))
      rw [hd] at this
      simpa using this
  | seq x y ihx ihy =>
    intro K st r h g w a Q hok hr hK hq
    simp only [evCode, Option.bind_eq_some_iff] at h
    obtain ⟨q, hqq, h⟩ := h
    simp only [codeOk, Bool.and_eq_true] at hok
    refine wp_seq (ihx K st q hqq g w a _ hok.1 hr hK fun a' w' hf => ?_)
    obtain ⟨g1, f1, f2, f3, f4⟩ := hf
    split at h
    · rename_i hn
      rw [hn]
      exact ihy K q.2 r h g1 w' a' Q (by rw [f3]; exact hok.2) f1 (f2.inv.wf hK) fun a2 w2 hf2 => hq a2 w2 (hf2.trans f2 f3 f4)
    · rename_i hn
      simp only [Option.some.injEq] at h; subst h
      have hf : Fin Cx K g w st.m a q.2 a' w' := ⟨g1, f1, f2, f3, f4⟩
      have := hq a' w' hf
      cases hx : q.1 with
      | nrm => exact absurd hx hn
      | ext i => rw [hx] at this; exact this
      | ret => rw [hx] at this; exact this
  | cond c x y ihx ihy =>
    intro K st r h g w a Q hok hr hK hq
    simp only [codeOk, Bool.and_eq_true] at hok
    simp only [evCode] at h
    have hc := evA hr (E.nilF f) c
    split at h
    · rename_i hb
      rw [toB_some hb] at hc
      exact wp_cond_true hc.b_inv (ihx K st r h g w a Q hok.1 hr hK hq)
    · rename_i hb
      rw [toB_some hb] at hc
      exact wp_cond_false hc.b_inv (ihy K st r h g w a Q hok.2 hr hK hq)
    · cases h
  | block id c ih =>
    intro K st r h g w a Q hok hr hK hq
    simp only [evCode, Option.map_eq_some_iff] at h
    obtain ⟨q, hqq, rfl⟩ := h
    refine wp_block (ih K st q hqq g w a _ hok hr hK fun a' w' hf => ?_)
    cases hx : q.1 with
    | nrm =>
      rw [hx] at hq
      have h2 := hq a' w' hf
      simp only [hx, exOf] at h2
      exact h2
    | ret =>
      rw [hx] at hq
      have h2 := hq a' w' hf
      simp only [hx, exOf] at h2
      exact h2
    | ext i =>
      rw [hx] at hq
      simp only at hq
      show (if i = id then Q .normal a' w' else Q (.exit i) a' w')
      split
      · rename_i e
        rw [if_pos e] at hq
        exact hq a' w' hf
      · rename_i e
        rw [if_neg e] at hq
        have := hq a' w' hf
        rw [hx] at this
        exact this
  | loop c ih =>
    intro K st r h g w a Q hok hr hK hq
    exact hL K f c st r h Cx g w a Q hok hr hK hq
  | exit id =>
    intro K st r h g w a Q _ hr _ hq
    simp only [evCode, Option.some.injEq] at h; subst h
    exact wp_exit (hq a w ⟨g, hr, .refl _ _ _ _ _, rfl, rfl⟩)
  | ret =>
    intro K st r h g w a Q _ hr _ hq
    simp only [evCode, Option.some.injEq] at h; subst h
    exact wp_ret (hq a w ⟨g, hr, .refl _ _ _ _ _, rfl, rfl⟩)
  | rangeFunc _ _ _ _ => intro K st r h; simp [evCode] at h
  | scope _ => intro K st r h; simp [evCode] at h
  | label _ => intro K st r h; simp [evCode] at h
  | goto _ => intro K st r h; simp [evCode] at h
  | refuse _ => intro K st r h; simp [evCode] at h

/-- one round of a loop -/
structure Round (P : Program) (E : Env) (C : Handler) (L : LHandler) (K : Ctx) (f : FuncId) (body : Code) (st : St) (r : Ex × St) : Prop where
  step : ∀ (Cx : Nat → Nat) (g : Gh) (w : World) (a : Act) (Q : Exit → Act → World → Prop), codeOk E f a.tmps.size body = true → Rel Cx g w a.tmps st.fr st.m → Wf K st.m.h →
    (∀ st1 a' w', L K f body st1 = some r → Fin Cx K g w st.m a st1 a' w' → Q .normal a' w') → (∀ a' w', r.1 ≠ .nrm → Fin Cx K g w st.m a r.2 a' w' → Q (exOf r.1) a' w') → body.wp P Q a w

theorem evLoop_round (hQ : TabOk P E.Q) (hC : CallOk P E C) (hL : LoopOk P E L) (hP : CallPure E C) (hLP : LoopPure L) {K : Ctx} {body : Code} {st : St} {r : Ex × St} (h : evLoop E C L K f body st = some r) : Round P E C L K f body st r := by
  constructor
  intro Cx g w a Q hok hr hK hn hx
  unfold evLoop at h
  simp only [Option.bind_eq_some_iff] at h
  obtain ⟨q, hq, h⟩ := h
  have hro : K.ro ≤ st.m.h.length := Nat.le_trans hK.ro hK.base
  have hrm := hr.weak (rd_mask (E.nvs f) st.fr)
  by_cases hkp : E.kl f (firstRegion body) = true
  · rw [if_pos hkp] at hq
    refine evCode_sound hQ hC hL hP hLP body K _ q hq g w a Q hok hrm hK fun a' w' hf => ?_
    split at h
    · rename_i hnr
      rw [hnr]
      rw [if_pos hkp] at h
      exact hn q.2 a' w' h hf
    · rename_i hnr
      simp only [Option.some.injEq] at h; subst h
      exact hx a' w' (fun e => hnr e) hf
  · rw [if_neg hkp] at hq
    have hK' : Wf ⟨K.ro, st.m.h.length⟩ st.m.h := ⟨hro, Nat.le_refl _, hK.lf, fun b x _ hx => hr.rbAll b x hx⟩
    refine evCode_sound hQ hC hL hP hLP body _ _ q hq g w a Q hok hrm hK' fun a' w' hf => ?_
    obtain ⟨g1, f1, f2, f3, f4⟩ := hf
    have hinv : HInv K st.m.h q.2.m.h := f2.inv.base_ (Nat.le_refl _)
    split at h
    · rename_i hnr
      rw [hnr]
      rw [if_neg hkp] at h
      have hw1 := f2.inv.wf hK'
      have hlam : st.m.lm.length ≤ q.2.m.lm.length := by
        rw [← hr.lm.len, ← f1.lm.len]
        rcases Nat.lt_or_ge g1.lam.length g.lam.length with hlt | hge
        · exfalso
          have := f2.stp.ge.lam g1.lam.length g.lam[g1.lam.length] (by simp [hlt])
          simp at this
        · exact hge
      have hcut := f1.cut hlam f2.inv.len hw1.lf fun b x hb hx => hw1.rb b x hb hx
      refine hn _ a' w' h ⟨g1.cut st.m.lm.length st.m.h.length q.2.m.h, hcut, ⟨{ f2.stp with ge := f2.stp.ge.cut f1.hp.sh (by rw [hr.hp.len]; exact Nat.le_refl _) (by rw [hr.lm.len]; exact Nat.le_refl _) fun b z e => by rw [hr.hp.sh] at e; exact shp_lt e }, fun b hb => ?_, hinv.cut hro⟩, f3, f4⟩
      show (g1.ρ.take st.m.h.length)[b]? = _
      rw [List.getElem?_take, if_pos (by omega)]
      exact f2.old b hb
    · rename_i hnr
      simp only [Option.some.injEq] at h; subst h
      exact hx a' w' (fun e => hnr e) ⟨g1, f1, ⟨f2.stp, f2.old, hinv⟩, f3, f4⟩

end

theorem exists_min {p : Nat → Prop} (h : ∃ d, p d) : ∃ d, p d ∧ ∀ e, e < d → ¬ p e := by
  obtain ⟨d, hd⟩ := h
  induction d using Nat.strongRecOn with
  | _ d ih =>
    by_cases hx : ∃ e, e < d ∧ p e
    · obtain ⟨e, he, hp⟩ := hx
      exact ih e he hp
    · exact ⟨d, hd, fun e he hp => hx ⟨e, he, hp⟩⟩

/-- loops, of the handlers of all depths -/
theorem loopOk_of {P : Program} {E : Env} (hQ : TabOk P E.Q) (D : Nat) (hC : ∀ d, d < D → CallOk P E (hand E d).1 ∧ CallPure E (hand E d).1 ∧ LoopPure (hand E d).2 ∧ LoopOk P E (hand E d).2) : LoopOk P E (hand E D).2 := by
  intro K f body st r h Cx g w a Q hok hr hK hq
  let I : Nat → Act → World → Prop := fun d a' w' => d ≤ D ∧ ∃ st1, (hand E d).2 K f body st1 = some r ∧ Fin Cx K g w st.m a st1 a' w'
  have hne : ∀ a' w', (∃ d, I d a' w') → ∃ d, I d a' w' ∧ ∀ e, e < d → ¬ I e a' w' := fun a' w' h => exists_min h
  let μ : Act → World → Nat := fun a' w' => open Classical in if h : ∃ d, I d a' w' then Classical.choose (hne a' w' h) else 0
  have hμ : ∀ a' w' (h : ∃ d, I d a' w'), I (μ a' w') a' w' ∧ ∀ e, e < μ a' w' → ¬ I e a' w' := fun a' w' h => by
    have e : μ a' w' = Classical.choose (hne a' w' h) := by simp only [μ, dif_pos h]
    rw [e]
    exact Classical.choose_spec (hne a' w' h)
  refine wp_loop (fun a' w' => ∃ d, I d a' w') μ ⟨D, Nat.le_refl _, st, h, g, hr, .refl _ _ _ _ _, rfl, rfl⟩ fun a1 w1 hI => ?_
  obtain ⟨hI1, hmin⟩ := hμ a1 w1 hI
  generalize hd : μ a1 w1 = d at hI1 hmin
  obtain ⟨hdD, st1, hL, hf⟩ := hI1
  cases d with
  | zero => simp [hand] at hL
  | succ d =>
    simp only [hand] at hL
    obtain ⟨h1, h2, h3, h4⟩ := hC d (by omega)
    obtain ⟨g1, f1, f2, f3, f4⟩ := hf
    refine (evLoop_round hQ h1 h4 h2 h3 hL).step Cx g1 w1 a1 _ (by rw [f3]; exact hok) f1 (f2.inv.wf hK) (fun st2 a' w' hl hf2 => ?_) fun a' w' hne' hf2 => ?_
    · have hex : I d a' w' := ⟨by omega, st2, hl, hf2.trans f2 f3 f4⟩
      refine ⟨⟨d, hex⟩, ?_⟩
      have h5 := (hμ a' w' ⟨d, hex⟩).2
      rcases Nat.lt_or_ge (μ a' w') (d + 1) with h6 | h6
      · exact h6
      · exact absurd hex (h5 d (by omega))
    · have := hq a' w' (hf2.trans f2 f3 f4)
      cases hx : r.1 with
      | nrm => exact absurd hx hne'
      | ext i => rw [hx] at this; exact this
      | ret => rw [hx] at this; exact this

end Go.Wn

namespace Go.Wn
open Go

def blkSz : Blk → Nat
  | .var cs => cs.length
  | .arr sz rs => rs.length * sz
  | .map _ _ => 1

/-- frozen prefixes, when blocks from n on are dropped -/
structure FzX (g : Gh) (h : Heap) (n : Nat) (X' : Nat → Nat) : Prop where
  drop : ∀ (b : Nat) (x : Blk) (R : Nat), n ≤ b → h[b]? = some x → g.ρ[b]? = some (some R) → X' R = blkSz x
  keep : ∀ B, (∀ b x, n ≤ b → h[b]? = some x → g.ρ[b]? ≠ some (some B)) → X' B = g.X B

theorem hcnt_two {g : Gh} {w : World} {h : Heap} {b c R : Nat} {x y : Blk} (hb : h[b]? = some x) (hc : h[c]? = some y) (h1 : g.ρ[b]? = some (some R)) (h2 : g.ρ[c]? = some (some R)) (hne : b ≠ c) : 2 ≤ hcnt R w h g.ρ := by
  have h3 := Sm_two (n := h.length) (f := hterm R w h g.ρ) (lt_of_get hb) (lt_of_get hc) hne
  rw [hterm_some hb h1, hterm_some hc h2] at h3
  simp only [if_true] at h3
  unfold hcnt
  omega

theorem fzX_ex (g : Gh) (w : World) (h : Heap) (n : Nat) (hone : ∀ B, hcnt B w h g.ρ ≤ 1) : ∃ X', FzX g h n X' := by
  classical
  refine ⟨fun B => if hx : ∃ b x, n ≤ b ∧ h[b]? = some x ∧ g.ρ[b]? = some (some B) then blkSz (Classical.choose (Classical.choose_spec hx)) else g.X B, fun b x R hn hx hR => ?_, fun B hB => ?_⟩
  · have hex : ∃ b x, n ≤ b ∧ h[b]? = some x ∧ g.ρ[b]? = some (some R) := ⟨b, x, hn, hx, hR⟩
    simp only [dif_pos hex]
    have hs := Classical.choose_spec (Classical.choose_spec hex)
    generalize Classical.choose (Classical.choose_spec hex) = y at hs
    generalize Classical.choose hex = c at hs
    obtain ⟨_, hy, hc⟩ := hs
    have : b = c := by
      by_cases e : b = c
      · exact e
      · have := hcnt_two (w := w) hx hy hR hc e
        have := hone R
        omega
    subst this
    rw [hx] at hy
    simp only [Option.some.injEq] at hy
    rw [hy]
  · have hex : ¬ ∃ b x, n ≤ b ∧ h[b]? = some x ∧ g.ρ[b]? = some (some B) := fun ⟨b, x, h1, h2, h3⟩ => hB b x h1 h2 h3
    simp only [dif_neg hex]

theorem fzL_spec (h : Heap) (n : Nat) : ∀ (d : Nat) (vs : List V) (ps : List PV), fzL h n d vs = some ps → ps.length = vs.length ∧ ∀ (j : Nat) (v : V), vs[j]? = some v → ∃ e p, e < d ∧ ps[j]? = some p ∧ fz h n e v = some p
  | 0, _, _, h => by simp [fzL] at h
  | d + 1, [], ps, h => by simp only [fzL, Option.some.injEq] at h; subst h; exact ⟨rfl, fun j v hj => by simp at hj⟩
  | d + 1, v :: vs, ps, hh => by
    simp only [fzL] at hh
    split at hh
    · rename_i x xs hx hxs
      simp only [Option.some.injEq] at hh; subst hh
      obtain ⟨h1, h2⟩ := fzL_spec h n d vs xs hxs
      refine ⟨by simp [h1], fun j u hj => ?_⟩
      cases j with
      | zero => simp at hj; subst hj; exact ⟨d, x, by omega, by simp, hx⟩
      | succ j =>
        obtain ⟨e, p, p1, p2, p3⟩ := h2 j u (by simpa using hj)
        exact ⟨e, p, by omega, by simpa using p2, p3⟩
    · cases hh

theorem fzR_spec (h : Heap) (n : Nat) : ∀ (d : Nat) (rs : List (List V)) (es : List PV), fzR h n d rs = some es → es.length = rs.length ∧ ∀ (i : Nat) (r : List V), rs[i]? = some r → ∃ e ps, e < d ∧ es[i]? = some (rowPV ps) ∧ fzL h n e r = some ps ∧ ps.all PV.cellOk = true
  | 0, _, _, h => by simp [fzR] at h
  | d + 1, [], es, h => by simp only [fzR, Option.some.injEq] at h; subst h; exact ⟨rfl, fun j v hj => by simp at hj⟩
  | d + 1, r :: rs, es, hh => by
    simp only [fzR] at hh
    split at hh
    · rename_i ps xs hx hxs
      split at hh
      · rename_i hok
        simp only [Option.some.injEq] at hh; subst hh
        obtain ⟨h1, h2⟩ := fzR_spec h n d rs xs hxs
        refine ⟨by simp [h1], fun j u hj => ?_⟩
        cases j with
        | zero => simp at hj; subst hj; exact ⟨d, ps, by omega, by simp, hx, hok⟩
        | succ j =>
          obtain ⟨e, p, p1, p2, p3⟩ := h2 j u (by simpa using hj)
          exact ⟨e, p, by omega, by simpa using p2, p3⟩
      · cases hh
    · cases hh

theorem rowPV_cells {ps : List PV} (h : ps.all PV.cellOk = true) : (rowPV ps).cells = ps := by
  unfold rowPV
  split
  · rename_i x
    simp only [List.all_cons, List.all_nil, Bool.and_true] at h
    cases x <;> first | rfl | (simp [PV.cellOk] at h)
  · rfl

section
variable {g : Gh} {w : World} {h : Heap} {n : Nat} {X' : Nat → Nat}

/-- what is frozen is what it was -/
theorem fz_rel (hr : HeapRel g w h) (hX : FzX g h n X') (hf : Fzn w w g.X X') : ∀ (d : Nat) (v : V) (y : Value) (p : PV), RepV g w v y → fz h n d v = some p → RepP w X' p y := by
  intro d
  induction d using Nat.strongRecOn with
  | _ d ih =>
    intro v y p hv he
    have ihL : ∀ e, e < d → ∀ (vs : List V) (ps : List PV), fzL h n e vs = some ps → ps.length = vs.length ∧ ∀ (F : Nat → Value), (∀ j v, vs[j]? = some v → RepV g w v (F j)) → ∀ j p, ps[j]? = some p → RepP w X' p (F j) := by
      intro e hlt vs ps hps
      obtain ⟨h1, h2⟩ := fzL_spec h n e vs ps hps
      refine ⟨h1, fun F hF j p hp => ?_⟩
      have hjl := lt_of_get hp
      obtain ⟨e', p', q1, q2, q3⟩ := h2 j vs[j] (by rw [List.getElem?_eq_getElem (by omega)])
      rw [hp] at q2
      simp only [Option.some.injEq] at q2
      subst q2
      exact ih e' (by omega) _ _ _ (hF j _ (by rw [List.getElem?_eq_getElem (by omega)])) q3
    -- rows of an array
    have rows : ∀ e, e < d → ∀ (b sz : Nat) (rs : List (List V)) (R off len : Nat) (ys : Array Value) (T : TypeId) (es : List PV), n ≤ b → h[b]? = some (.arr sz rs) → g.ρ[b]? = some (some R) → w.heap[R]? = some (.cells ys T (0, 0)) →
        off + len ≤ rs.length → fzR h n e ((rs.drop off).take len) = some es → es.length = len ∧ (∀ x ∈ es, x.cells.length = sz) ∧ (∀ (ad : Option Addr) (cap : Nat), len ≤ cap → (es = [] ∨ ad = some ⟨R, off * sz, none⟩) → RepP w X' (.lst es) (.slice ad es.length cap)) := by
      intro e hlt b sz rs R off len ys T es hn hb hR hblk hfit hes
      obtain ⟨hX0, ys2, T2, cap2, hblk2, hs2, hcap2, hz2, hc2⟩ := hr.blk b _ R hb hR
      rw [hblk] at hblk2
      simp only [Option.some.injEq, Obj.cells.injEq] at hblk2
      obtain ⟨rfl, rfl, _⟩ := hblk2
      obtain ⟨l1, l2⟩ := fzR_spec h n e _ _ hes
      have hlen : es.length = len := by rw [l1]; simp; omega
      have hrow : ∀ (i : Nat) (x : PV), es[i]? = some x → ∃ (r : List V) (ps : List PV) (e' : Nat), e' < e ∧ rs[off + i]? = some r ∧ x = rowPV ps ∧ fzL h n e' r = some ps ∧ ps.all PV.cellOk = true := fun i x hx => by
        have hi := lt_of_get hx
        have hri : ((rs.drop off).take len)[i]? = rs[off + i]? := by rw [List.getElem?_take, if_pos (by omega), List.getElem?_drop]
        have hrr : rs[off + i]? = some rs[off + i] := List.getElem?_eq_getElem (by omega)
        obtain ⟨e', ps, q1, q2, q3, q4⟩ := l2 i rs[off + i] (by rw [hri]; exact hrr)
        rw [hx] at q2
        simp only [Option.some.injEq] at q2
        exact ⟨_, ps, e', q1, hrr, q2, q3, q4⟩
      have hcells : ∀ (i : Nat) (x : PV), es[i]? = some x → x.cells.length = sz := fun i x hx => by
        obtain ⟨r, ps, e', q1, q2, rfl, q3, q4⟩ := hrow i x hx
        rw [rowPV_cells q4, (fzL_spec h n e' r ps q3).1]
        exact (hc2 _ r q2).1
      refine ⟨hlen, fun x hx => ?_, fun ad cap hcp had => ?_⟩
      · obtain ⟨i, hi⟩ := List.getElem?_of_mem hx
        exact hcells i x hi
      · refine .lst es ad cap sz R (off * sz) (fun i j => ys.getD (off * sz + (i * sz + j)) undef) had hcells (by omega) (fun i x j c hi hj => ?_) (fun i x j c hi hj => ?_)
        · have hil := lt_of_get hi
          have hjl := lt_of_get hj
          rw [hcells i x hi] at hjl
          have hlt1 : off * sz + (i * sz + j) < rs.length * sz := by
            have := ix_lt (sz := sz) (i := off + i) (n := rs.length) (by omega) hjl
            rw [Nat.add_mul] at this; omega
          have hle : rs.length * sz ≤ cap2 * sz := Nat.mul_le_mul_right _ hcap2
          refine ⟨by rw [hX.drop b _ R hn hb hR]; exact hlt1, ?_⟩
          simp only [World.cell?, hblk, Option.isSome_none, Bool.false_eq_true, if_false]
          have : off * sz + (i * sz + j) < ys.size := by omega
          rw [Array.getElem?_eq_getElem this]
          simp [Array.getD_eq_getD_getElem?, this]
        · obtain ⟨r, ps, e', q1, q2, rfl, q3, q4⟩ := hrow i x hi
          rw [rowPV_cells q4] at hj
          have := (ihL e' (by omega) r ps q3).2 (fun j => ys.getD ((off + i) * sz + j) undef) (fun j v hv => (hc2 _ r q2).2 j v hv) j c hj
          have e5 : (off + i) * sz + j = off * sz + (i * sz + j) := by rw [Nat.add_mul]; omega
          rw [e5] at this
          exact this
    cases d with
    | zero => cases v <;> simp [fz] at he
    | succ d =>
      cases hv with
      | p x y hp => simp only [fz, Option.some.injEq] at he; subst he; exact hp.mono hf
      | own0 a =>
        simp only [fz, Option.some.injEq] at he; subst he
        exact .lst [] a 0 0 0 0 (fun _ _ => undef) (.inl rfl) (fun i e h => by simp at h) (Nat.le_refl _) (fun i e j c h => by simp at h) (fun i e j c h => by simp at h)
      | own es cap sz B hne hp hz ho => simp only [fz, Option.some.injEq] at he; subst he; exact hp.mono hf
      | agg cs ys hl hc =>
        simp only [fz, Option.map_eq_some_iff] at he
        obtain ⟨ps, hps, rfl⟩ := he
        obtain ⟨l1, l2⟩ := ihL d (by omega) cs ps hps
        exact .agg ps ys (by omega) fun j c hj => l2 (fun j => ys.getD j undef) hc j c hj
      | tup cs ys hl hc => simp [fz] at he
      | lptr b j B hb => simp [fz] at he
      | clo f fs bs xs ys _ _ _ _ _ _ => simp [fz] at he
      | und y => simp [fz] at he
      | nov => simp [fz] at he
      | ptr b j B hs hb =>
        simp only [fz] at he
        split at he
        · rename_i hn
          split at he
          · rename_i cs hx
            simp only [Option.bind_eq_some_iff] at he
            obtain ⟨ps, hps, he⟩ := he
            split at he
            · simp only [Option.some.injEq] at he; subst he
              obtain ⟨hX0, ys, T, hblk, hl, hc⟩ := hr.blk b _ B hx hb
              obtain ⟨l1, l2⟩ := ihL d (by omega) cs ps hps
              have := RepP.ref (w := w) (X := X') ps j B 0 (fun j => ys.getD j undef) (fun i c hi => by
                have hil := lt_of_get hi
                refine ⟨by rw [hX.drop b _ B hn hx hb]; simp only [blkSz]; omega, ?_⟩
                simp only [World.cell?, hblk, Option.isSome_none, Bool.false_eq_true, if_false]
                have : 0 + i < ys.size := by omega
                rw [Array.getElem?_eq_getElem this]
                simp [Array.getD_eq_getD_getElem?, show i < ys.size from by omega]) (fun i c hi => l2 _ hc i c hi)
              simpa using this
            · cases he
          · cases he
        · cases he
      | aptr b i j ver sz k y hy hs hv hB =>
        simp only [fz] at he
        split at he
        · rename_i hn
          split at he
          · rename_i sz' rs hx
            split at he
            · rename_i hver
              split at he
              · rename_i cs hcs
                simp only [Option.map_eq_some_iff] at he
                obtain ⟨ps, hps, rfl⟩ := he
                have hsh : g.sh b = some (sz', rs.length) := by rw [hr.sh]; simp [shp, hx]
                rw [hs] at hsh
                simp only [Option.some.injEq, Prod.mk.injEq] at hsh
                obtain ⟨rfl, rfl⟩ := hsh
                obtain ⟨B, hb, rfl⟩ := hB hver.symm
                obtain ⟨hX0, ys, T, cap, hblk, hsz, hcap, hz, hc⟩ := hr.blk b _ B hx hb
                obtain ⟨l1, l2⟩ := ihL d (by omega) cs ps hps
                obtain ⟨hrl, hrc⟩ := hc i cs hcs
                refine .ref ps j B (i * sz) (fun j => ys.getD (i * sz + j) undef) (fun q c hq => ?_) (fun q c hq => l2 _ hrc q c hq)
                have hil := lt_of_get hq
                have hlt1 := ix_lt (sz := sz) (lt_of_get hcs) (show q < sz by omega)
                have hle : rs.length * sz ≤ cap * sz := Nat.mul_le_mul_right _ hcap
                refine ⟨by rw [hX.drop b _ B hn hx hb]; exact hlt1, ?_⟩
                simp only [World.cell?, hblk, Option.isSome_none, Bool.false_eq_true, if_false]
                have : i * sz + q < ys.size := by omega
                rw [Array.getElem?_eq_getElem this]
                simp [Array.getD_eq_getD_getElem?, this]
              · cases he
            · cases he
          · cases he
        · cases he
      | sl b off len ver sz k ad cap hl hs hv hB =>
        simp only [fz] at he
        split at he
        · rename_i hn
          split at he
          · rename_i sz' rs hx
            split at he
            · rename_i hver
              simp only [Option.map_eq_some_iff] at he
              obtain ⟨es, hes, rfl⟩ := he
              have hsh : g.sh b = some (sz', rs.length) := by rw [hr.sh]; simp [shp, hx]
              rw [hs] at hsh
              simp only [Option.some.injEq, Prod.mk.injEq] at hsh
              obtain ⟨rfl, rfl⟩ := hsh
              obtain ⟨B, ys, T, hb, had, hblk, hsize⟩ := hB hver.1.symm
              obtain ⟨q1, q2, q3⟩ := rows d (by omega) b sz rs B off len ys T es hn hx hb hblk (by omega) hes
              have := q3 (some ad) cap hl (by
                rcases had with h0 | h0
                · exact .inl (List.length_eq_zero_iff.1 (by omega))
                · exact .inr (by rw [h0]))
              rw [q1] at this
              exact this
            · cases he
          · cases he
        · cases he
      | mp b R hs hb =>
        simp only [fz] at he
        split at he
        · rename_i hn
          split at he
          · rename_i ks vs hx
            simp only [Option.map_eq_some_iff] at he
            obtain ⟨ps, hps, rfl⟩ := he
            obtain ⟨hX0, es, ck, hblk, h1, h2, h3, h4, h5⟩ := hr.blk b _ R hx hb
            obtain ⟨l1, l2⟩ := ihL d (by omega) vs ps hps
            exact .mp ks ps R es ck hblk (by rw [hX.drop b _ R hn hx hb]; simp [blkSz]) h1 (by omega) (fun i k hk => (h4 i k hk).mono hf) (fun i v hv => l2 (fun i => (es.getD i default).val) h5 i v hv)
          · cases he
        · cases he

end
end Go.Wn
