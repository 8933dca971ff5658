/- Part of the proof: an evaluator of the model's code over pure trees, and what it computes. No condition of its own. -/
import Derived.Test.YtjpmhmpiglbioaaGreatDoorWa
import Derived.Deep.MidRow
import Derived.DeepKeys
import Derived.Laws.Cover3
import Derived.Laws.Pointers
import Derived.MapKept
set_option linter.unusedSimpArgs false
set_option linter.unusedVariables false
namespace Go.Wn
open Go

theorem pmL_congr {B : Nat} : ∀ {cs : List V} {ys ys' : Array Value} {k k' : Nat}, (∀ i, i < cs.length → ys'.getD (k' + i) undef = ys.getD (k + i) undef) → pmL B cs ys' k' = pmL B cs ys k
  | [], _, _, _, _, _ => rfl
  | c :: cs, ys, ys', k, k', h => by
    simp only [pmL]
    have h0 := h 0 (by simp)
    rw [Nat.add_zero, Nat.add_zero] at h0
    rw [h0, pmL_congr (cs := cs) (ys := ys) (ys' := ys') (k := k + 1) (k' := k' + 1) fun i hi => by
      have := h (i + 1) (by simp; omega)
      rwa [show k' + (i + 1) = k' + 1 + i from by omega, show k + (i + 1) = k + 1 + i from by omega] at this]

theorem pmL_append {B : Nat} : ∀ {cs ds : List V} {ys : Array Value} {k : Nat}, pmL B (cs ++ ds) ys k = pmL B cs ys k + pmL B ds ys (k + cs.length)
  | [], ds, ys, k => by simp [pmL]
  | c :: cs, ds, ys, k => by
    simp only [List.cons_append, pmL, List.length_cons]
    rw [pmL_append (cs := cs) (ds := ds) (ys := ys) (k := k + 1), show k + 1 + cs.length = k + (cs.length + 1) from by omega]
    omega

theorem cut3 {α : Type} (cs : List α) {j n : Nat} (h : j + n ≤ cs.length) : cs = cs.take j ++ ((cs.drop j).take n ++ cs.drop (j + n)) := by
  conv => lhs; rw [← List.take_append_drop j cs, ← List.take_append_drop n (cs.drop j)]
  rw [List.drop_drop]

theorem setCells_length {cs ds : List V} {j : Nat} (h : j + ds.length ≤ cs.length) : (setCells cs j ds).length = cs.length := by
  simp [setCells]; omega

theorem setCells_get {cs ds : List V} {j : Nat} (h : j + ds.length ≤ cs.length) {i : Nat} {c : V} (hc : (setCells cs j ds)[i]? = some c) :
    (j ≤ i ∧ i < j + ds.length ∧ ds[i - j]? = some c) ∨ ((i < j ∨ j + ds.length ≤ i) ∧ cs[i]? = some c) := by
  unfold setCells at hc
  rw [List.append_assoc, List.getElem?_append] at hc
  rw [List.length_take, Nat.min_eq_left (by omega)] at hc
  split at hc
  · rename_i hi
    rw [List.getElem?_take, if_pos hi] at hc
    exact .inr ⟨.inl hi, hc⟩
  · rename_i hi
    rw [List.getElem?_append] at hc
    split at hc
    · rename_i hi2
      exact .inl ⟨by omega, by omega, hc⟩
    · rename_i hi2
      rw [List.getElem?_drop] at hc
      refine .inr ⟨.inr (by omega), ?_⟩
      rwa [show j + ds.length + (i - j - ds.length) = i from by omega] at hc

/-- counts, where a part of the cells is exchanged -/
theorem pmL_setCells {B : Nat} {cs ds : List V} {ys ys' : Array Value} {j k : Nat} (h : j + ds.length ≤ cs.length)
    (ho : ∀ i, i < cs.length → i < j ∨ j + ds.length ≤ i → ys'.getD (k + i) undef = ys.getD (k + i) undef) :
    pmL B (setCells cs j ds) ys' k + pmL B ((cs.drop j).take ds.length) ys (k + j) = pmL B cs ys k + pmL B ds ys' (k + j) := by
  have e1 : pmL B cs ys k = pmL B (cs.take j ++ ((cs.drop j).take ds.length ++ cs.drop (j + ds.length))) ys k := by rw [← cut3 cs h]
  rw [e1]
  unfold setCells
  simp only [List.append_assoc, pmL_append]
  have l1 : (cs.take j).length = j := by simp; omega
  have l2 : ((cs.drop j).take ds.length).length = ds.length := by simp; omega
  rw [l1, l2]
  have a1 : pmL B (cs.take j) ys' k = pmL B (cs.take j) ys k := pmL_congr fun i hi => ho i (by omega) (.inl (by omega))
  have a2 : pmL B (cs.drop (j + ds.length)) ys' (k + j + ds.length) = pmL B (cs.drop (j + ds.length)) ys (k + j + ds.length) := pmL_congr fun i hi => by
    have := ho (j + ds.length + i) (by simp at hi; omega) (.inr (by omega))
    rwa [show k + (j + ds.length + i) = k + j + ds.length + i from by omega] at this
  rw [a1, a2]
  omega

/-- cells put in the place of others: no questions asked -/
def putAt (m : Mem) (a : V) (ds : List V) : Mem :=
  match a with
  | .lptr b j => match m.lm[b]? with
    | some cs => { m with lm := m.lm.set b (setCells cs j ds) }
    | none => m
  | .ptr b j => match m.h[b]? with
    | some (.var cs) => { m with h := m.h.set b (.var (setCells cs j ds)) }
    | _ => m
  | .aptr b i j _ => match m.h[b]? with
    | some (.arr sz rs) => match rs[i]? with
      | some cs => { m with h := m.h.set b (.arr sz (rs.set i (setCells cs j ds))) }
      | none => m
    | _ => m
  | _ => m

/-- cells [o, o + n) of block R were exchanged -/
structure Exch (R o : Nat) (n : Nat) (w w' : World) (ys ys' : Array Value) (T : TypeId) : Prop where
  turn : Turn R w w'
  old : w.heap[R]? = some (.cells ys T (0, 0))
  new : w'.heap[R]? = some (.cells ys' T (0, 0))
  size : ys'.size = ys.size
  rest : ∀ i, i < o ∨ o + n ≤ i → ys'.getD i undef = ys.getD i undef

theorem Exch.refl {R o n : Nat} {w : World} {ys : Array Value} {T : TypeId} (h : w.heap[R]? = some (.cells ys T (0, 0))) : Exch R o n w w ys ys T :=
  ⟨.refl R w, h, h, rfl, fun _ _ => rfl⟩

theorem shp_set_var {h : Heap} {b : Nat} {cs ds : List V} (hb : h[b]? = some (.var cs)) : shp (h.set b (.var ds)) = shp h := by
  funext c
  unfold shp
  by_cases e : b = c
  · subst e
    rw [List.getElem?_set_self (lt_of_get hb), hb]
  · rw [List.getElem?_set_ne e]

theorem shp_set_arr {h : Heap} {b sz : Nat} {rs rs' : List (List V)} (hb : h[b]? = some (.arr sz rs)) (hl : rs'.length = rs.length) : shp (h.set b (.arr sz rs')) = shp h := by
  funext c
  unfold shp
  by_cases e : b = c
  · subst e
    rw [List.getElem?_set_self (lt_of_get hb), hb]
    simp [hl]
  · rw [List.getElem?_set_ne e]

/-- what stands at an address, in both worlds -/
structure AtAddr (g : Gh) (w : World) (m : Mem) (a : V) (old : List V) (R o : Nat) (ys : Array Value) (T : TypeId) : Prop where
  blk : w.heap[R]? = some (.cells ys T (0, 0))
  fits : o + old.length ≤ ys.size
  x0 : g.X R = 0
  whose : (∃ b j cs, a = .lptr b j ∧ g.lam[b]? = some R ∧ m.lm[b]? = some cs) ∨ (∃ b x, ((∃ j, a = .ptr b j) ∨ (∃ i j v, a = .aptr b i j v)) ∧ g.ρ[b]? = some (some R) ∧ m.h[b]? = some x)
  rep : ∀ (j : Nat) (c : V), old[j]? = some c → RepV g w c (ys.getD (o + j) undef)

/-- the write: the cells of a place are exchanged, what they own goes over -/
theorem RelV.putAt {Cx : Nat → Nat} {g : Gh} {w : World} {tm : Array Value} {fr : Fr} {m : Mem} {v : V} {y : Value} (h : RelV Cx g w tm fr m v y) {a : V} {ya : Value} (ha : RepV g w a ya)
    {n : Nat} {old ds : List V} (hl : ld m a n = some old) (hp : ∀ cs off, a ≠ .p (.ref cs off)) (hd : ds.length = n) :
    ∃ (R o : Nat) (ys : Array Value) (T : TypeId), ya = .pointer (some ⟨R, o, none⟩) ∧ AtAddr g w m a old R o ys T ∧ old.length = n ∧ 0 < lcnt R w m.lm g.lam + hcnt R w m.h g.ρ ∧
      ∀ (w' : World) (ys' : Array Value), Exch R o n w w' ys ys' T → (Stp (fun B => fcnt B fr tm + Cx B) g w g w' → ∀ (j : Nat) (c : V), ds[j]? = some c → RepV g w' c (ys'.getD (o + j) undef)) →
        ∀ (u : V) (z : Value), (Stp (fun B => fcnt B fr tm + Cx B) g w g w' → RepV g w' u z) → (∀ B, pmL B ds ys' o + pm B u z ≤ pmL B old ys o + pm B v y) →
          RelV Cx g w' tm fr (putAt m a ds) u z ∧ Stp (fun B => fcnt B fr tm + Cx B) g w g w' := by
  cases ha with
  | lptr b j R hb =>
    simp only [ld] at hl
    cases hx : m.lm[b]? with
    | none => simp [hx] at hl
    | some cs =>
      simp only [hx] at hl
      obtain ⟨h0, ys, T, hh, hsz, hc⟩ := h.lm.box b cs R hx hb
      unfold getCells at hl
      split at hl
      · rename_i hle
        simp only [Option.some.injEq] at hl
        subst hl
        have hol : ((cs.drop j).take n).length = n := by simp; omega
        refine ⟨R, j, ys, T, rfl, ⟨hh, by omega, h0, .inl ⟨b, j, cs, rfl, hb, hx⟩, fun i c hi => ?_⟩, hol, ?_, ?_⟩
        · rw [List.getElem?_take] at hi
          split at hi
          · rw [List.getElem?_drop] at hi; exact hc _ _ hi
          · cases hi
        · have := Sm_get (n := m.lm.length) (d := b) (f := lterm R w m.lm g.lam) (lt_of_get hx)
          simp only [lterm, List.getD, hb, Option.getD_some, if_true] at this
          unfold lcnt; omega
        · intro w' ys' ex hds u z hu hcn
          have e : Wn.putAt m (.lptr b j) ds = ⟨m.lm.set b (setCells cs j ds), m.h⟩ := by simp [Wn.putAt, hx]
          have hX : g.X R = 0 := h0
          have hz : fcnt R fr tm + Cx R = 0 := by
            have := h.one R
            have := Sm_get (n := m.lm.length) (d := b) (f := lterm R w m.lm g.lam) (lt_of_get hx)
            simp only [lterm, List.getD, hb, Option.getD_some, if_true] at this
            unfold lcnt at *; omega
          have st : Stp (fun B => fcnt B fr tm + Cx B) g w g w' := ex.turn.stp hX hz
          rw [e]
          obtain ⟨h1, _⟩ := h.setBox (setCells cs j ds) hx hb ex.turn (u := u) (z := z) (fun st => ⟨ys', T, ex.new, by rw [ex.size, setCells_length (by omega)]; exact hsz, fun i c hi => by
            rcases setCells_get (by omega) hi with ⟨i1, i2, i3⟩ | ⟨i1, i2⟩
            · have := hds (st.mono fun B => by omega) _ _ i3
              rwa [show j + (i - j) = i from by omega] at this
            · rw [ex.rest i (by omega)]
              exact (hc i c i2).mono st.fz st.sh st.ge fun B _ => rfl⟩) (hu st) (fun B => by
            have h1 := pmL_setCells (B := B) (cs := cs) (ds := ds) (ys := ys) (ys' := ys') (j := j) (k := 0) (by omega) (fun i _ hi => by rw [Nat.zero_add]; exact ex.rest i (by omega))
            have h2 := hcn B
            simp only [Nat.zero_add] at h1
            rw [hd] at h1
            have e1 : conc w' R = ys' := by unfold conc; rw [ex.new]
            have e2 : conc w R = ys := by unfold conc; rw [ex.old]
            rw [e1, e2]; omega)
          exact ⟨h1, st⟩
      · cases hl
  | ptr b j R hs hb =>
    simp only [ld] at hl
    cases hx : m.h[b]? with
    | none => simp [hx] at hl
    | some x =>
      cases x with
      | arr sz rs => simp [hx] at hl
      | map ks vs => simp [hx] at hl
      | var cs =>
        simp only [hx] at hl
        obtain ⟨h0, ys, T, hh, hsz, hc⟩ := h.hp.blk b _ R hx hb
        unfold getCells at hl
        split at hl
        · rename_i hle
          simp only [Option.some.injEq] at hl
          subst hl
          have hol : ((cs.drop j).take n).length = n := by simp; omega
          have hge := Sm_get (n := m.h.length) (d := b) (f := hterm R w m.h g.ρ) (lt_of_get hx)
          rw [hterm_some hx hb] at hge
          simp only [if_true] at hge
          refine ⟨R, j, ys, T, rfl, ⟨hh, by omega, h0, .inr ⟨b, _, .inl ⟨j, rfl⟩, hb, hx⟩, fun i c hi => ?_⟩, hol, ?_, ?_⟩
          · rw [List.getElem?_take] at hi
            split at hi
            · rw [List.getElem?_drop] at hi; exact hc _ _ hi
            · cases hi
          · unfold hcnt; omega
          · intro w' ys' ex hds u z hu hcn
            have e : Wn.putAt m (.ptr b j) ds = ⟨m.lm, m.h.set b (.var (setCells cs j ds))⟩ := by simp [Wn.putAt, hx]
            have hX : g.X R = 0 := h0
            have hz : fcnt R fr tm + Cx R = 0 := by
              have := h.one R
              unfold hcnt at *; omega
            have st : Stp (fun B => fcnt B fr tm + Cx B) g w g w' := ex.turn.stp hX hz
            rw [e]
            obtain ⟨h1, _⟩ := h.setBlk (.var (setCells cs j ds)) hx hb (shp_set_var hx) ex.turn (u := u) (z := z) (fun st => ⟨ys', T, ex.new, by rw [ex.size, setCells_length (by omega)]; exact hsz, fun i c hi => by
              rcases setCells_get (by omega) hi with ⟨i1, i2, i3⟩ | ⟨i1, i2⟩
              · have := hds (st.mono fun B => by omega) _ _ i3
                rwa [show j + (i - j) = i from by omega] at this
              · rw [ex.rest i (by omega)]
                exact (hc i c i2).mono st.fz st.sh st.ge fun B _ => rfl⟩) (hu st) (fun B => by
              have h1 := pmL_setCells (B := B) (cs := cs) (ds := ds) (ys := ys) (ys' := ys') (j := j) (k := 0) (by omega) (fun i _ hi => by rw [Nat.zero_add]; exact ex.rest i (by omega))
              have h2 := hcn B
              simp only [Nat.zero_add] at h1
              rw [hd] at h1
              have e1 : conc w' R = ys' := by unfold conc; rw [ex.new]
              have e2 : conc w R = ys := by unfold conc; rw [ex.old]
              simp only [bcnt]
              rw [e1, e2]; omega)
            exact ⟨h1, st⟩
        · cases hl
  | aptr b i j ver sz' n' y' hy' hs hv hB =>
    simp only [ld] at hl
    cases hx : m.h[b]? with
    | none => simp [hx] at hl
    | some x =>
      cases x with
      | var cs => simp [hx] at hl
      | map ks vs => simp [hx] at hl
      | arr sz rs =>
        simp only [hx] at hl
        split at hl
        · rename_i hver
          cases hr : rs[i]? with
          | none => simp [hr] at hl
          | some r =>
            simp only [hr] at hl
            have hsh : g.sh b = some (sz, rs.length) := by rw [h.hp.sh]; simp [shp, hx]
            rw [hs] at hsh
            simp only [Option.some.injEq, Prod.mk.injEq] at hsh
            obtain ⟨rfl, rfl⟩ := hsh
            obtain ⟨R, hb, rfl⟩ := hB hver.symm
            obtain ⟨h0, ys, T, cap, hh, hsz, hcap, hz, hc⟩ := h.hp.blk b _ R hx hb
            obtain ⟨hrl, hrc⟩ := hc i r hr
            have hi := lt_of_get hr
            unfold getCells at hl
            split at hl
            · rename_i hle
              simp only [Option.some.injEq] at hl
              subst hl
              have hol : ((r.drop j).take n).length = n := by simp; omega
              have hge := Sm_get (n := m.h.length) (d := b) (f := hterm R w m.h g.ρ) (lt_of_get hx)
              rw [hterm_some hx hb] at hge
              simp only [if_true] at hge
              have hrow : (i + 1) * sz' ≤ cap * sz' := Nat.mul_le_mul_right _ (by omega)
              rw [Nat.add_mul] at hrow
              refine ⟨R, i * sz' + j, ys, T, rfl, ⟨hh, by omega, h0, .inr ⟨b, _, .inr ⟨i, j, ver, rfl⟩, hb, hx⟩, fun k c hk => ?_⟩, hol, ?_, ?_⟩
              · rw [List.getElem?_take] at hk
                split at hk
                · rw [List.getElem?_drop] at hk
                  rw [Nat.add_assoc]
                  exact hrc _ _ hk
                · cases hk
              · unfold hcnt; omega
              · intro w' ys' ex hds u z hu hcn
                have e : Wn.putAt m (.aptr b i j ver) ds = ⟨m.lm, m.h.set b (.arr sz' (rs.set i (setCells r j ds)))⟩ := by simp [Wn.putAt, hx, hr]
                have hX : g.X R = 0 := h0
                have hz' : fcnt R fr tm + Cx R = 0 := by
                  have := h.one R
                  unfold hcnt at *; omega
                have st : Stp (fun B => fcnt B fr tm + Cx B) g w g w' := ex.turn.stp hX hz'
                have apart : ∀ k, k ≠ i → ∀ q, q < sz' → k * sz' + q < i * sz' + j ∨ i * sz' + j + n ≤ k * sz' + q := by
                  intro k hk q hq
                  rcases Nat.lt_or_ge k i with h | h
                  · left
                    have : (k + 1) * sz' ≤ i * sz' := Nat.mul_le_mul_right _ (by omega)
                    rw [Nat.add_mul] at this
                    omega
                  · right
                    have : (i + 1) * sz' ≤ k * sz' := Nat.mul_le_mul_right _ (by omega)
                    rw [Nat.add_mul] at this
                    omega
                rw [e]
                obtain ⟨h1, _⟩ := h.setBlk (.arr sz' (rs.set i (setCells r j ds))) hx hb (shp_set_arr hx (by simp)) ex.turn (u := u) (z := z) (fun st => ⟨ys', T, cap, ex.new, by rw [ex.size]; exact hsz, by simpa using hcap, hz, fun k r' hr' => by
                  by_cases ek : i = k
                  · subst ek
                    rw [List.getElem?_set_self hi] at hr'
                    simp only [Option.some.injEq] at hr'
                    subst hr'
                    refine ⟨by rw [setCells_length (by omega)]; exact hrl, fun q c hq => ?_⟩
                    rcases setCells_get (by omega) hq with ⟨i1, i2, i3⟩ | ⟨i1, i2⟩
                    · have := hds (st.mono fun B => by omega) _ _ i3
                      rwa [show i * sz' + j + (q - j) = i * sz' + q from by omega] at this
                    · rw [ex.rest (i * sz' + q) (by omega)]
                      exact (hrc q c i2).mono st.fz st.sh st.ge fun B _ => rfl
                  · rw [List.getElem?_set_ne ek] at hr'
                    obtain ⟨l1, l2⟩ := hc k r' hr'
                    refine ⟨l1, fun q c hq => ?_⟩
                    rw [ex.rest _ (apart k (Ne.symm ek) q (by have := lt_of_get hq; omega))]
                    exact (l2 q c hq).mono st.fz st.sh st.ge fun B _ => rfl⟩) (hu st) (fun B => by
                  have e1 : conc w' R = ys' := by unfold conc; rw [ex.new]
                  have e2 : conc w R = ys := by unfold conc; rw [ex.old]
                  simp only [bcnt, List.length_set]
                  rw [e1, e2]
                  have h3 := Sm_upd (n := rs.length) (d := i) (f := fun k => pmL B (rs.getD k []) ys (k * sz')) (f' := fun k => if k < rs.length then pmL B ((rs.set i (setCells r j ds)).getD k []) ys' (k * sz') else pmL B (rs.getD k []) ys (k * sz')) hi (fun k hk => by
                    by_cases hlt : k < rs.length
                    · simp only [hlt, if_true]
                      rw [getD_set_ne hk]
                      refine pmL_congr fun q hq => ?_
                      refine ex.rest _ (apart k hk q ?_)
                      have e3 : rs[k]? = some rs[k] := by simp [hlt]
                      have := (hc k _ e3).1
                      simp only [List.getD, e3, Option.getD_some] at hq
                      omega
                    · simp only [hlt, if_false])
                  rw [Sm_congr (n := rs.length) (f := fun k => pmL B ((rs.set i (setCells r j ds)).getD k []) ys' (k * sz')) (f' := fun k => if k < rs.length then pmL B ((rs.set i (setCells r j ds)).getD k []) ys' (k * sz') else pmL B (rs.getD k []) ys (k * sz')) (fun k hk => by simp only [hk, if_true])] at h3
                  simp only [hi, if_true] at h3
                  rw [getD_set_at hi] at h3
                  have e4 : rs.getD i [] = r := by simp [List.getD, hr]
                  rw [e4] at h3
                  have h1 := pmL_setCells (B := B) (cs := r) (ds := ds) (ys := ys) (ys' := ys') (j := j) (k := i * sz') (by omega) (fun q _ hq => ex.rest _ (by omega))
                  rw [hd] at h1
                  have h2 := hcn B
                  omega)
                exact ⟨h1, st⟩
            · cases hl
        · cases hl
  | p x y hp' =>
    cases hp' with
    | ref cs off B o f hc hr => exact absurd rfl (hp cs off)
    | _ => simp [ld] at hl
  | _ => simp [ld] at hl

end Go.Wn

namespace Go.Wn
open Go

/-- the value that n cells make -/
def valOf (b : Bool) (n : Nat) (f : Nat → Value) : Value := if b then .agg ((List.range n).map f).toArray else f 0

theorem run_loadAt {P : Program} {Q : Tab} (hQ : TabOk P Q) {t : TypeId} {n : Nat} {b : Bool} (hs : Q.sz t = some n) (ha : aggT Q t = some b) {w : World} {B o : Nat} {f : Nat → Value}
    (hc : ∀ j, j < n → w.cell? ⟨B, o + j, none⟩ = some (f j)) (hn : b = false → n = 1) : (Instr.loadAt t (.pointer (some ⟨B, o, none⟩))).run P w = .ok (valOf b n f) w := by
  have h1 := run_isAgg hQ ha w
  have h2 := run_sizeOf hQ hs w
  simp only [Instr.loadAt, Instr.sureAddr, Sem.run_bind, Sem.run_pure, Result.andThen_ok, loadVar, h1]
  cases b with
  | true =>
    have h3 := run_loadCells (P := P) w ⟨B, o, none⟩ n f (fun j hj => by rw [Addr.add_mid]; exact hc j hj)
    simp only [if_true, Sem.run_bind, h2, Result.andThen_ok, h3, Sem.run_pure, valOf]
  | false =>
    have h3 := hc 0 (by rw [hn rfl]; omega)
    simp only [Nat.add_zero] at h3
    simp [run_load, h3, valOf]

theorem pm_mkAgg (B : Nat) (cs : List V) (y : Value) : pm B (mkAgg cs) y = pm B (.agg cs) y := by
  unfold mkAgg
  split
  · rename_i ps hp
    have e := allP hp
    subst e
    rw [pm_p]
    have : ∀ l : List PV, hasOwnL (l.map V.p) = false := by intro l; induction l with
      | nil => rfl
      | cons x xs ih => simp [hasOwnL, hasOwn, ih]
    rw [pm_noown B _ y (by simp [hasOwn, this])]
  · rfl

theorem getD_range_map {n j : Nat} {f : Nat → Value} (h : j < n) : ((List.range n).map f).toArray.getD j undef = f j := by
  simp [Array.getD_eq_getD_getElem?, h]

/-- cells made one value -/
theorem ofCells_rel {Q : Tab} {t : TypeId} {cs : List V} {u : V} (h : ofCells Q t cs = some u) {g : Gh} {w : World} {f : Nat → Value} (hc : ∀ (j : Nat) (c : V), cs[j]? = some c → RepV g w c (f j)) :
    ∃ b, aggT Q t = some b ∧ (b = false → cs.length = 1) ∧ RepV g w u (valOf b cs.length f) ∧
      ∀ (B : Nat) (ys : Array Value) (k : Nat), (∀ j, j < cs.length → ys.getD (k + j) undef = f j) → pm B u (valOf b cs.length f) = pmL B cs ys k := by
  unfold ofCells at h
  split at h
  · rename_i ha
    simp only [Option.some.injEq] at h
    subst h
    refine ⟨true, ha, by simp, RepV.mkAgg (.agg cs _ (by simp) fun j c hj => ?_), fun B ys k hy => ?_⟩
    · rw [getD_range_map (lt_of_get hj)]; exact hc j c hj
    · rw [pm_mkAgg]
      simp only [valOf, if_true, pm]
      refine pmL_congr fun i hi => ?_
      rw [Nat.zero_add, getD_range_map hi, hy i hi]
  · rename_i ha
    split at h
    · rename_i v
      simp only [Option.some.injEq] at h
      subst h
      refine ⟨false, ha, by simp, hc 0 v (by simp), fun B ys k hy => ?_⟩
      have := hy 0 (by simp)
      simp only [Nat.add_zero] at this
      simp [valOf, pmL, this]
    · cases h
  · cases h

theorem isNov_mkAgg (cs : List V) : isNov (mkAgg cs) = false := by unfold mkAgg; split <;> rfl
theorem isLptr_mkAgg (cs : List V) : isLptr (mkAgg cs) = false := by unfold mkAgg; split <;> rfl

theorem isNov_cp (v : V) : isNov (cp v) = isNov v := by
  cases v <;> first | rfl | (simp only [cp]; rw [isNov_mkAgg]; rfl)

theorem isLptr_cp (v : V) : isLptr (cp v) = isLptr v := by
  cases v <;> first | rfl | (simp only [cp]; rw [isLptr_mkAgg]; rfl)

theorem cp_noown_ptr {v : V} (h : isLptr v = true) : cp v = v := by cases v <;> simp [isLptr] at h; rfl

theorem getD_undef {tm : Array Value} {t : Nat} (h : tm.size ≤ t) : tm.getD t undef = undef := by simp [Array.getD_eq_getD_getElem?, Array.getElem?_eq_none h]

theorem hasOwn_size {g : Gh} {w : World} {fr : Fr} {tm : Array Value} (h : FrRel g w fr tm) {t : Nat} (ho : hasOwn (rd fr t) = true) : t < tm.size := by
  rcases Nat.lt_or_ge t tm.size with hlt | hge
  · exact hlt
  · exfalso
    have h1 := h t
    rw [getD_undef hge] at h1
    generalize rd fr t = v at h1 ho
    unfold undef at h1
    cases h1 with
    | tup cs ys hl _ =>
      have : cs = [] := by
        cases cs with
        | nil => rfl
        | cons _ _ => simp at hl
      subst this
      simp [hasOwn, hasOwnL] at ho
    | p x y hp => simp [hasOwn] at ho
    | _ => simp [hasOwn] at ho

/-- the frame's slots that lost their right to append -/
def Lost (fr fr' : Fr) : Prop := ∀ t, cp (rd fr' t) = cp (rd fr t)

theorem cp_cp_noown : ∀ v : V, hasOwn v = false → cp (cp v) = cp v ∨ True := fun _ _ => .inr trivial

mutual
theorem cp_cp : ∀ v : V, cp (cp v) = cp v
  | .p _ => rfl
  | .own _ => rfl
  | .agg cs => by
    simp only [cp]
    unfold mkAgg
    split
    · rfl
    · rename_i h
      simp only [cp]
      unfold mkAgg
      rw [cpL_cpL cs, h]
  | .tup cs => by simp only [cp]; rw [cpL_cpL cs]
  | .lptr _ _ => rfl
  | .ptr _ _ => rfl
  | .aptr _ _ _ _ => rfl
  | .sl _ _ _ _ => rfl
  | .mp _ => rfl
  | .clo _ _ _ => rfl
  | .ifc _ _ => rfl
  | .und => rfl
  | .nov => rfl
theorem cpL_cpL : ∀ cs : List V, cpL (cpL cs) = cpL cs
  | [] => rfl
  | c :: cs => by simp only [cpL]; rw [cp_cp c, cpL_cpL cs]
end

theorem Lost.refl (fr : Fr) : Lost fr fr := fun _ => rfl
theorem Lost.trans {a b c : Fr} (h : Lost a b) (k : Lost b c) : Lost a c := fun t => (k t).trans (h t)
theorem Lost.slot (fr : Fr) (s : Nat) : Lost fr (setF fr s (cp (rd fr s))) := fun t => by
  rw [rd_setF]
  by_cases e : s = t
  · subst e; simp only [if_true]; exact cp_cp _
  · simp only [e, if_false]

theorem Lost.nov {fr fr' : Fr} (h : Lost fr fr') (t : Nat) : isNov (rd fr' t) = isNov (rd fr t) := by
  rw [← isNov_cp (rd fr' t), h t, isNov_cp]
theorem Lost.lptr {fr fr' : Fr} (h : Lost fr fr') (t : Nat) : isLptr (rd fr' t) = isLptr (rd fr t) := by
  rw [← isLptr_cp (rd fr' t), h t, isLptr_cp]

theorem Lost.copyOf {fr fr' : Fr} (h : Lost fr fr') (pre : List Oper) (t : Nat) : copyOf pre fr' t = copyOf pre fr t := by
  unfold Wn.copyOf; rw [h.nov t]
theorem Lost.loadOf {fr fr' : Fr} (h : Lost fr fr') (E : Env) (sq : Bool) (pre : List Oper) (t : Nat) : loadOf E sq pre fr' t = loadOf E sq pre fr t := by
  unfold Wn.loadOf
  simp only [h.nov, h.lptr]

theorem Ids.lost {P : Program} {E : Env} {sq : Bool} {S : Nat → Prop} {pre : List Oper} {fr fr' : Fr} {tm : Array Value} {w : World} (h : Ids P E sq S pre fr tm w) (hl : Lost fr fr') : Ids P E sq S pre fr' tm w :=
  ⟨fun t s hs e => h.cpy t s hs (by rw [hl.copyOf] at e; exact e), fun t ty a hs e => h.ldd t ty a hs (by rw [hl.loadOf] at e; exact e)⟩

/-- what a load gives -/
theorem load_rel {P : Program} {Q : Tab} (hQ : TabOk P Q) {Cx : Nat → Nat} {g : Gh} {w : World} {tm : Array Value} {fr : Fr} {m : Mem} (h : Rel Cx g w tm fr m) {a : V} {y : Value} {t : TypeId} {n : Nat} {vs : List V} {u : V}
    (ha : RepV g w a y) (hs : Q.sz t = some n) (e : ld m a n = some vs) (hu : ofCells Q t (cpL vs) = some u) :
    ∃ z, (Instr.loadAt t y).run P w = .ok z w ∧ RepV g w u z := by
  obtain ⟨hl, B, o, f, rfl, hc⟩ := ld_rel h ha e
  have hc' : ∀ (j : Nat) (c : V), (cpL vs)[j]? = some c → RepV g w c (f j) := fun j c hj => by
    rw [cpL_get] at hj
    simp only [Option.map_eq_some_iff] at hj
    obtain ⟨d, hd, rfl⟩ := hj
    exact (hc j d hd).2.cp
  obtain ⟨b, hb, hb1, hr, _⟩ := ofCells_rel hu hc'
  rw [cpL_length, hl] at hb1 hr
  refine ⟨_, run_loadAt hQ hs hb (fun j hj => ?_) hb1, hr⟩
  have : vs[j]? = some vs[j] := by simp [hl, hj]
  exact (hc j _ this).1

theorem ofCells_noown {Q : Tab} {t : TypeId} {cs : List V} {u : V} (h : ofCells Q t cs = some u) (ho : hasOwnL cs = false) : hasOwn u = false := by
  unfold ofCells at h
  split at h
  · simp only [Option.some.injEq] at h
    subst h
    rw [hasOwn_mkAgg]; exact ho
  · split at h
    · simp only [Option.some.injEq] at h
      subst h
      simpa [hasOwnL] using ho
    · cases h
  · cases h

/-- an operand, with the right to append if it has it -/
structure Took (P : Program) (Cx : Nat → Nat) (g : Gh) (w : World) (tm : Array Value) (fr : Fr) (m : Mem) (v : V) (y : Value) (m' : Mem) (fr' : Fr) : Prop where
  rel : RelV Cx g w tm fr' m' v y
  lost : Lost fr fr'

theorem RelV.of_rel {Cx : Nat → Nat} {g : Gh} {w : World} {tm : Array Value} {fr : Fr} {m : Mem} (h : Rel Cx g w tm fr m) : RelV Cx g w tm fr m .nov undef := h.withV .nov rfl

theorem unown_eq {m : Mem} {a : V} {n : Nat} {cs : List V} (h : ld m a n = some cs) (hp : ∀ cs off, a ≠ .p (.ref cs off)) : unown m a n = putAt m a (cpL cs) := by
  unfold ld at h
  split at h
  · rename_i b j
    cases hx : m.lm[b]? with
    | none => simp [hx] at h
    | some x =>
      simp only [hx, getCells] at h
      split at h
      · simp only [Option.some.injEq] at h; subst h
        simp [unown, putAt, hx]
      · cases h
  · rename_i b j
    cases hx : m.h[b]? with
    | none => simp [hx] at h
    | some x =>
      cases x with
      | var x =>
        simp only [hx, getCells] at h
        split at h
        · simp only [Option.some.injEq] at h; subst h
          simp [unown, putAt, hx]
        · cases h
      | _ => simp [hx] at h
  · rename_i b i j ver
    cases hx : m.h[b]? with
    | none => simp [hx] at h
    | some x =>
      cases x with
      | arr sz rs =>
        simp only [hx] at h
        split at h
        · cases hr : rs[i]? with
          | none => simp [hr] at h
          | some r =>
            simp only [hr, getCells] at h
            split at h
            · simp only [Option.some.injEq] at h; subst h
              simp [unown, putAt, hx, hr]
            · cases h
        · cases h
      | _ => simp [hx] at h
  · rename_i cs' off
    exact absurd rfl (hp cs' off)
  · cases h

theorem takeS_rel {P : Program} {E : Env} (hQ : TabOk P E.Q) {Cx : Nat → Nat} {g : Gh} {w : World} {tm : Array Value} {ds : List Deferred} {fr : Fr} {m : Mem} {sq nf : Bool} {ro : Nat} {pre : List Oper} (h : Rel Cx g w tm fr m)
    {S : Nat → Prop} (hi : Ids P E sq S pre fr tm w) (x : Operand) (hS : ∀ t, x = .tmp t → S t) :
    RelV Cx g w tm (takeS E nf sq ro pre fr m x).2.2 (takeS E nf sq ro pre fr m x).2.1 (takeS E nf sq ro pre fr m x).1 (Act.eval ⟨tm, ds⟩ x) ∧ Lost fr (takeS E nf sq ro pre fr m x).2.2 := by
  cases x with
  | tmp t =>
    have plain : hasOwn (rd fr t) = false → RelV Cx g w tm fr m (rd fr t) (Act.eval ⟨tm, ds⟩ (.tmp t)) ∧ Lost fr fr := fun ho => ⟨h.withV (h.frm t) ho, .refl fr⟩
    simp only [takeS]
    by_cases ho : hasOwn (rd fr t) = true
    · simp only [ho, if_true]
      exact ⟨h.takeSlot (hasOwn_size h.frm ho), .slot fr t⟩
    · have ho' : hasOwn (rd fr t) = false := by simpa using ho
      simp only [ho', Bool.false_eq_true, if_false]
      cases hcp : copyOf pre fr t with
      | some s =>
        simp only
        have he := hi.cpy t s (hS t rfl) hcp
        by_cases hos : hasOwn (rd fr s) = true
        · simp only [hos, if_true]
          refine ⟨?_, .slot fr s⟩
          have := h.takeSlot (hasOwn_size h.frm hos)
          rw [← he] at this
          exact this
        · have hos' : hasOwn (rd fr s) = false := by simpa using hos
          simp only [hos', Bool.false_eq_true, if_false]
          exact plain ho'
      | none =>
        simp only
        cases hld : loadOf E sq pre fr t with
        | none => exact plain ho'
        | some p =>
          obtain ⟨ty, a⟩ := p
          simp only
          cases hsz : E.Q.sz ty with
          | none => exact plain ho'
          | some n =>
            simp only
            cases hl : ld m (cp (rd fr a)) n with
            | none => exact plain ho'
            | some cs =>
              simp only
              by_cases hoc' : (hasOwnL cs && ownsAt ro (cp (rd fr a))) = true
              · have hoc : hasOwnL cs = true := by simp only [Bool.and_eq_true] at hoc'; exact hoc'.1
                simp only [hoc', if_true]
                cases hof : ofCells E.Q ty cs with
                | none => exact plain ho'
                | some u =>
                  simp only
                  have hrun := hi.ldd t ty a (hS t rfl) hld
                  have hra : RepV g w (cp (rd fr a)) (tm.getD a undef) := (h.frm a).cp
                  have hnp : ∀ cs' off, cp (rd fr a) ≠ .p (.ref cs' off) := fun cs' off e => by
                    rw [e] at hl
                    simp only [ld] at hl
                    split at hl
                    · simp only [Option.some.injEq] at hl
                      subst hl
                      have : ∀ l : List PV, hasOwnL (l.map V.p) = false := by intro l; induction l with
                        | nil => rfl
                        | cons x xs ih => simp [hasOwnL, hasOwn, ih]
                      rw [this] at hoc
                      cases hoc
                    · cases hl
                  rw [unown_eq hl hnp]
                  obtain ⟨R, o, ys, T, hy, hat, hol, hcnt, H⟩ := (RelV.of_rel h).putAt hra (ds := cpL cs) hl hnp (by rw [cpL_length]; exact (ld_rel h hra hl).1)
                  obtain ⟨b, hb, hb1, hr, hpm⟩ := ofCells_rel (f := fun j => ys.getD (o + j) undef) hof hat.rep
                  have hz : Act.eval ⟨tm, ds⟩ (.tmp t) = valOf b cs.length (fun j => ys.getD (o + j) undef) := by
                    show tm.getD t undef = _
                    rw [hy] at hrun
                    have h2 := run_loadAt (P := P) hQ (w := w) (B := R) (o := o) (f := fun j => ys.getD (o + j) undef) hsz hb (fun j hj => by
                      have hlt : o + j < ys.size := by have := hat.fits; omega
                      simp only [World.cell?, hat.blk, Option.isSome_none, Bool.false_eq_true, if_false]
                      rw [Array.getElem?_eq_getElem hlt]
                      simp [Array.getD_eq_getD_getElem?, hlt]) (fun hb0 => by rw [← hol]; exact hb1 hb0)
                    rw [h2, ← hol] at hrun
                    simp only [Result.ok.injEq] at hrun
                    exact hrun.1.symm
                  refine ⟨?_, .refl fr⟩
                  refine (H w ys (.refl hat.blk) (fun st j c hj => ?_) u _ (fun st => by rw [hz]; exact hr) fun B => ?_).1
                  · rw [cpL_get] at hj
                    simp only [Option.map_eq_some_iff] at hj
                    obtain ⟨d, hd, rfl⟩ := hj
                    exact (hat.rep j d hd).cp
                  · rw [pmL_noown B _ _ _ (hasOwnL_cp cs), hz, hpm B ys o (fun j hj => rfl)]
                    omega
              · simp only [hoc', Bool.false_eq_true, if_false]
                exact plain ho'
  | const v => exact ⟨h.withV0 (arg_rel h.frm nf (.const v) ds) (fun B => pm_arg (fr := fr) nf (.const v) B _), .refl fr⟩
  | global k => exact ⟨h.withV0 (arg_rel h.frm nf (.global k) ds) (fun B => pm_arg (fr := fr) nf (.global k) B _), .refl fr⟩
  | func k => exact ⟨h.withV0 (arg_rel h.frm nf (.func k) ds) (fun B => pm_arg (fr := fr) nf (.func k) B _), .refl fr⟩

end Go.Wn

namespace Go.Wn
open Go

/-- the blocks of the call's own variables; the blocks of the heap -/
def lids (lam : List Nat) (n : Nat) (B : Nat) : Nat := Sm n fun b => if lam.getD b 0 = B then 1 else 0
def hids (ρ : List (Option Nat)) (n : Nat) (B : Nat) : Nat := Sm n fun b => if ρ.getD b none = some B then 1 else 0

theorem lids_le (B : Nat) (w : World) (lm : List (List V)) (lam : List Nat) : lids lam lm.length B ≤ lcnt B w lm lam :=
  Sm_le fun b _ => by unfold lterm; split <;> omega
theorem hids_le (B : Nat) (w : World) (h : Heap) (ρ : List (Option Nat)) : hids ρ h.length B ≤ hcnt B w h ρ :=
  Sm_le fun b _ => by
    unfold hterm
    cases e : ρ.getD b none with
    | none => simp
    | some R =>
      simp only [Option.some.injEq]
      split <;> omega

/-- what an operation leaves alone: what the callers count, the old part of the heap; the blocks that it does not write -/
def Dk (E : Env) (K : Ctx) (o : Oper) (Cx : Nat → Nat) (g : Gh) (w : World) (m : Mem) (B : Nat) : Nat :=
  Cx B + hcnt B w (m.h.take K.ro) g.ρ + (if isStore o then 0 else lids g.lam m.lm.length B) + (if writesMem E o then 0 else hids g.ρ m.h.length B)

structure Post (E : Env) (K : Ctx) (o : Oper) (Cx : Nat → Nat) (g : Gh) (w : World) (tm : Array Value) (fr : Fr) (m : Mem) (r : Out) (y : Value) (g' : Gh) (w' : World) : Prop where
  rel : RelV Cx g' w' tm r.fr r.m r.v y
  stp : Stp (Dk E K o Cx g w m) g w g' w'
  lost : Lost fr r.fr
  old : ∀ b, b < K.ro → g'.ρ[b]? = g.ρ[b]?

/-- an operation is sound -/
def OpOk (P : Program) (E : Env) (K : Ctx) (o : Oper) (Cx : Nat → Nat) (g : Gh) (w : World) (a : Act) (fr : Fr) (m : Mem) (r : Out) : Prop :=
  ∀ (next : Act → World → Prop) (Qe : Exit → Act → World → Prop), (∀ g' w' y, Post E K o Cx g w a.tmps fr m r y g' w' → next (a.put o.dst y) w') → o.wp P a w next Qe

section
variable {P : Program} {E : Env} {K : Ctx} {o : Oper} {Cx : Nat → Nat} {g : Gh} {w : World} {a : Act} {fr : Fr} {m : Mem}

theorem Rel.post0 (h : Rel Cx g w a.tmps fr m) {v : V} {y : Value} (hv : RepV g w v y) (hp : ∀ B, pm B v y = 0) : Post E K o Cx g w a.tmps fr m ⟨v, m, fr⟩ y g w :=
  ⟨h.withV0 hv hp, .refl _ g w, .refl fr, fun _ _ => rfl⟩

/-- an operation that only yields a value -/
theorem OpOk.yield (h : Rel Cx g w a.tmps fr m) {v : V} {y : Value} (he : (execOp a.eval o).run P w = .ok (.value y) w) (hv : RepV g w v y) (hp : ∀ B, pm B v y = 0) :
    OpOk P E K o Cx g w a fr m ⟨v, m, fr⟩ := by
  intro next Qe hn
  unfold Oper.wp
  rw [he]
  exact hn g w y (h.post0 hv hp)

/-- an operation that yields a value it took -/
theorem OpOk.took {r : Out} {y : Value} (he : (execOp a.eval o).run P w = .ok (.value y) w) (hr : RelV Cx g w a.tmps r.fr r.m r.v y) (hl : Lost fr r.fr) :
    OpOk P E K o Cx g w a fr m r := by
  intro next Qe hn
  unfold Oper.wp
  rw [he]
  exact hn g w y ⟨hr, .refl _ g w, hl, fun _ _ => rfl⟩

theorem evA (h : Rel Cx g w a.tmps fr m) (nf : Bool) (x : Operand) : RepV g w (argOf nf fr x) (a.eval x) := arg_rel h.frm nf x a.defers
end

theorem toB_some {v : V} {b : Bool} (h : toB v = some b) : v = .p (.b b) := by
  unfold toB at h; split at h <;> simp at h; subst h; rfl
theorem toI_some {v : V} {k : IntKind} {n : Int} (h : toI v = some (k, n)) : v = .p (.i k n) := by
  unfold toI at h; split at h <;> simp at h; obtain ⟨rfl, rfl⟩ := h; rfl
theorem toS_some {v : V} {s : List UInt8} (h : toS v = some s) : v = .p (.s s) := by
  unfold toS at h; split at h <;> simp at h; subst h; rfl

section
variable {g : Gh} {w : World} {y : Value}
theorem RepV.b_inv {b : Bool} (h : RepV g w (.p (.b b)) y) : y = .bool b := by cases h with | p _ _ h => cases h; rfl
theorem RepV.i_inv {k : IntKind} {n : Int} (h : RepV g w (.p (.i k n)) y) : y = .int k n := by cases h with | p _ _ h => cases h; rfl
theorem RepV.s_inv {s : List UInt8} (h : RepV g w (.p (.s s)) y) : y = .string ⟨s.toArray⟩ := by cases h with | p _ _ h => cases h; rfl
theorem RepV.nils_inv (h : RepV g w (.p .nils) y) : y = .slice none 0 0 := by cases h with | p _ _ h => cases h; rfl
theorem RepV.c_inv {x : Value} (h : RepV g w (.p (.c x)) y) : y = x := by cases h with | p _ _ h => cases h; rfl
end

section
variable {P : Program} {E : Env} {K : Ctx} {o : Oper} {Cx : Nat → Nat} {g : Gh} {w : World} {a : Act} {fr : Fr} {m : Mem}

theorem ok_move (h : Rel Cx g w a.tmps fr m) (nf : Bool) {x : Operand} (ho : o.op = .move x) : OpOk P E K o Cx g w a fr m ⟨argOf nf fr x, m, fr⟩ :=
  .yield h (y := a.eval x) (by simp [execOp, ho]) (evA h nf x) fun B => pm_arg nf x B _

theorem ok_pick (h : Rel Cx g w a.tmps fr m) (nf : Bool) {c x y : Operand} (ho : o.op = .pick c x y) {b : Bool} (hb : toB (argOf nf fr c) = some b) :
    OpOk P E K o Cx g w a fr m ⟨if b then argOf nf fr x else argOf nf fr y, m, fr⟩ := by
  have hc := evA h nf c
  rw [toB_some hb] at hc
  refine .yield h (y := if b then a.eval x else a.eval y) ?_ ?_ ?_
  · simp [execOp, ho, hc.b_inv, asBool, Result.andThen]
  · cases b
    · exact evA h nf y
    · exact evA h nf x
  · cases b
    · exact fun B => pm_arg nf y B _
    · exact fun B => pm_arg nf x B _

theorem ok_assign (h : Rel Cx g w a.tmps fr m) {nf sq : Bool} {pre : List Oper} {S : Nat → Prop} (hi : Ids P E sq S pre fr a.tmps w) {x : Operand} (hS : ∀ t, x = .tmp t → S t) (ho : o.op = .assign x) (hQ : TabOk P E.Q) :
    OpOk P E K o Cx g w a fr m ⟨(takeS E nf sq K.ro pre fr m x).1, (takeS E nf sq K.ro pre fr m x).2.1, (takeS E nf sq K.ro pre fr m x).2.2⟩ := by
  obtain ⟨h1, h2⟩ := takeS_rel (ds := a.defers) (nf := nf) (ro := K.ro) hQ h hi x hS
  exact .took (y := a.eval x) (by simp [execOp, ho]) h1 h2

theorem ok_load (hQ : TabOk P E.Q) (h : Rel Cx g w a.tmps fr m) (nf : Bool) {t : TypeId} {x : Operand} (ho : o.op = .load t x) {n : Nat} (hn : E.Q.sz t = some n) {r : List V} (hr : ld m (argOf nf fr x) n = some r) {v : V} (hv : ofCells E.Q t (cpL r) = some v) :
    OpOk P E K o Cx g w a fr m ⟨v, m, fr⟩ := by
  obtain ⟨z, h1, h2⟩ := load_rel hQ h (evA h nf x) hn hr hv
  refine .yield h (y := z) ?_ h2 fun B => pm_noown B v z (ofCells_noown hv (hasOwnL_cp r))
  simp [execOp, ho, h1, Result.andThen]

theorem ok_nilCheck (h : Rel Cx g w a.tmps fr m) (nf : Bool) {x : Operand} (ho : o.op = .nilCheck x)
    (hv : (∃ b j, argOf nf fr x = .lptr b j) ∨ (∃ b j, argOf nf fr x = .ptr b j) ∨ (∃ cs off, argOf nf fr x = .p (.ref cs off)) ∨ (∃ f p q, argOf nf fr x = .clo (.func f) p q) ∨ (∃ b i j v, argOf nf fr x = .aptr b i j v)) :
    OpOk P E K o Cx g w a fr m ⟨argOf nf fr x, m, fr⟩ := by
  have hx := evA h nf x
  refine .yield h (y := a.eval x) ?_ hx fun B => pm_arg nf x B _
  rcases hv with ⟨b, j, e⟩ | ⟨b, j, e⟩ | ⟨cs, off, e⟩ | ⟨f, p, q, e⟩ | ⟨b, i, j, v, e⟩
  · rw [e] at hx
    generalize hy : a.eval x = y at hx
    cases hx with
    | lptr b j B hb => simp [execOp, ho, hy]
  · rw [e] at hx
    generalize hy : a.eval x = y at hx
    cases hx with
    | ptr b j B hs hb => simp [execOp, ho, hy]
  · rw [e] at hx
    generalize hy : a.eval x = y at hx
    cases hx with
    | p _ _ hp => cases hp with
      | ref cs off B o f hc hr => simp [execOp, ho, hy]
  · rw [e] at hx
    generalize hy : a.eval x = y at hx
    cases hx with
    | clo f p q xs ys h1 h2 h3 h4 h5 h6 => simp [execOp, ho, hy]
  · rw [e] at hx
    generalize hy : a.eval x = y at hx
    cases hx with
    | aptr b i j v sz n y hy' hs hv hB =>
      obtain ⟨q, rfl⟩ := hy'
      simp [execOp, ho, hy]

theorem ok_unOp (h : Rel Cx g w a.tmps fr m) (nf : Bool) {op : UnOp} {t : TypeId} {x : Operand} (ho : o.op = .unOp op t x) {v : V} (hv : unV op (argOf nf fr x) = some v) :
    OpOk P E K o Cx g w a fr m ⟨v, m, fr⟩ := by
  have hx := evA h nf x
  unfold unV at hv
  split at hv
  · rename_i b e
    rw [e] at hx
    simp only [Option.some.injEq] at hv
    subst hv
    exact .yield h (y := .bool (!b)) (by simp [execOp, ho, hx.b_inv, Op.unary, Result.andThen]) (.p _ _ (.b _)) fun B => pm_p B _ _
  · rename_i k n e
    rw [e] at hx
    simp only [Option.some.injEq] at hv
    subst hv
    exact .yield h (y := .int k (k.wrap (0 - n))) (by simp [execOp, ho, hx.i_inv, Op.unary, Op.intArith, Result.andThen]) (.p _ _ (.i _ _)) fun B => pm_p B _ _
  · cases hv

theorem ok_convert (hQ : TabOk P E.Q) (h : Rel Cx g w a.tmps fr m) (nf : Bool) {s d : TypeId} {x : Operand} (ho : o.op = .convert s d x) {v : V} (hv : convV E.Q s d (argOf nf fr x) = some v) :
    OpOk P E K o Cx g w a fr m ⟨v, m, fr⟩ := by
  have hx := evA h nf x
  unfold convV at hv
  split at hv
  · rename_i ds k k' n e1 e2 e
    rw [e] at hx
    simp only [Option.some.injEq] at hv
    subst hv
    refine .yield h (y := .int k (k.wrap n)) ?_ (.p _ _ (.i _ _)) fun B => pm_p B _ _
    have u1 := run_und hQ e1 w
    have u2 := run_und hQ e2 w
    simp only [execOp, ho, hx.i_inv, convert, Sem.run_bind, u1, u2, Result.andThen_ok]
    cases ds <;> simp [Conv.intToInt]
  · rename_i ds l e1 e2 e
    rw [e] at hx
    simp only [Option.some.injEq] at hv
    subst hv
    refine .yield h (y := .string ⟨l.toArray⟩) ?_ (.p _ _ (.s _)) fun B => pm_p B _ _
    have u1 := run_und hQ e1 w
    have u2 := run_und hQ e2 w
    simp only [execOp, ho, hx.s_inv, convert, Sem.run_bind, u1, u2, Result.andThen_ok]
    cases ds <;> simp
  · cases hv

theorem pmL_args (nf : Bool) (fr : Fr) (B : Nat) (ys : Array Value) : ∀ (xs : List Operand) (k : Nat), pmL B (xs.map (argOf nf fr)) ys k = 0
  | [], _ => rfl
  | x :: xs, k => by simp only [List.map_cons, pmL]; rw [pm_arg, pmL_args nf fr B ys xs (k + 1)]

theorem ok_makeFunc (h : Rel Cx g w a.tmps fr m) (nf : Bool) {f : FuncId} {p q : Array Operand} (ho : o.op = .makeFunc (.func f) p q) :
    OpOk P E K o Cx g w a fr m ⟨.clo (.func f) (p.toList.map (argOf nf fr)) (q.toList.map (argOf nf fr)), m, fr⟩ := by
  refine .yield h (y := .func (.func f) (p.map a.eval) (q.map a.eval)) (by simp [execOp, ho, Instr.makeFunc, Result.andThen]) ?_ fun B => by simp [pm]
  have key : ∀ (l : Array Operand) (j : Nat) (c : V), (l.toList.map (argOf nf fr))[j]? = some c → RepV g w c ((l.map a.eval).getD j undef) := fun l j c hj => by
    simp only [List.getElem?_map, Array.getElem?_toList, Option.map_eq_some_iff] at hj
    obtain ⟨x, hx, rfl⟩ := hj
    have : (l.map a.eval).getD j undef = a.eval x := by simp [Array.getD_eq_getD_getElem?, hx]
    rw [this]
    exact evA h nf x
  exact .clo _ _ _ _ _ (by simp) (by simp) (fun B => pmL_args nf fr B _ _ 0) (fun B => pmL_args nf fr B _ _ 0) (key p) (key q)

theorem hasOwnL_args (nf : Bool) (fr : Fr) : ∀ xs : List Operand, (∀ x, x ∈ xs → hasOwn (argOf nf fr x) = false) → hasOwnL (xs.map (argOf nf fr)) = false
  | [], _ => rfl
  | x :: xs, h => by
    simp only [List.map_cons, hasOwnL, Bool.or_eq_false_iff]
    exact ⟨h x (by simp), hasOwnL_args nf fr xs fun y hy => h y (by simp [hy])⟩

end
end Go.Wn

namespace Go.Wn
open Go

theorem ba_list (a : List UInt8) : (⟨a.toArray⟩ : ByteArray).toList = a := by
  rw [ByteArray.toList_eq]

theorem ba_eq (a b : List UInt8) : ((⟨a.toArray⟩ : ByteArray) == ⟨b.toArray⟩) = (a == b) := by
  rw [beq_toListBytes, ba_list, ba_list]

section
variable {P : Program} {Q : Tab} {g : Gh} {w : World}

theorem eqS_rel (hQ : TabOk P Q) {t : TypeId} {x y : V} {vx vy : Value} {r : Bool} (hx : RepV g w x vx) (hy : RepV g w y vy) (h : eqS Q t x y = some r) (d : Nat) : (Op.equalIn (d + 1) t vx vy).run P w = .ok r w := by
  unfold eqS at h
  split at h
  · rename_i hu
    simp only [Option.bind_eq_some_iff, Option.some.injEq] at h
    obtain ⟨a, ha, b, hb, rfl⟩ := h
    rw [toB_some ha] at hx; rw [toB_some hb] at hy
    simp [hx.b_inv, hy.b_inv, Op.equalIn, run_und hQ hu]
  · rename_i k hu
    simp only [Option.bind_eq_some_iff] at h
    obtain ⟨a, ha, b, hb, h⟩ := h
    split at h
    · rename_i hk
      simp only [Option.some.injEq] at h
      subst h
      rw [toI_some (k := a.1) (n := a.2) ha] at hx; rw [toI_some (k := b.1) (n := b.2) hb] at hy
      simp [hx.i_inv, hy.i_inv, Op.equalIn, run_und hQ hu, hk]
    · cases h
  · rename_i hu
    simp only [Option.bind_eq_some_iff, Option.some.injEq] at h
    obtain ⟨a, ha, b, hb, rfl⟩ := h
    rw [toS_some ha] at hx; rw [toS_some hb] at hy
    simp [hx.s_inv, hy.s_inv, Op.equalIn, run_und hQ hu]
    exact ba_eq a b
  · rename_i e hu
    split at h
    all_goals first
      | (simp only [Option.some.injEq] at h; subst h)
      | cases h
    · rw [hx.c_inv, hy.c_inv]; simp [Op.equalIn, run_und hQ hu]
    · rw [hx.c_inv]; cases hy with | lptr b j B hb => simp [Op.equalIn, run_und hQ hu]
    · rw [hx.c_inv]; cases hy with | ptr b j B hs hb => simp [Op.equalIn, run_und hQ hu]
    · rw [hx.c_inv]; cases hy with | aptr b i j ver sz n y hy hs hv hB => obtain ⟨q, rfl⟩ := hy; simp [Op.equalIn, run_und hQ hu]
    · rw [hx.c_inv]; cases hy with | p _ _ hp => cases hp with | ref cs off B o f hc hr => simp [Op.equalIn, run_und hQ hu]
    · rw [hy.c_inv]; cases hx with | lptr b j B hb => simp [Op.equalIn, run_und hQ hu]
    · rw [hy.c_inv]; cases hx with | ptr b j B hs hb => simp [Op.equalIn, run_und hQ hu]
    · rw [hy.c_inv]; cases hx with | aptr b i j ver sz n y hy hs hv hB => obtain ⟨q, rfl⟩ := hy; simp [Op.equalIn, run_und hQ hu]
    · rw [hy.c_inv]; cases hx with | p _ _ hp => cases hp with | ref cs off B o f hc hr => simp [Op.equalIn, run_und hQ hu]
  · rename_i e hu
    split at h
    all_goals first
      | (simp only [Option.some.injEq] at h; subst h)
      | cases h
    · rw [hx.nils_inv, hy.nils_inv]; simp [Op.equalIn, run_und hQ hu]
    · rw [hy.nils_inv]
      cases hx with | p _ _ hp => cases hp with
        | lst es a cap sz B off f ha hz hcap hc hr =>
          rcases ha with ha | ha
          · cases ha
          · subst ha; simp [Op.equalIn, run_und hQ hu]
    · rw [hy.nils_inv]
      cases hx with | sl b off len ver sz n ad cap hl hs hv hB => simp [Op.equalIn, run_und hQ hu]
  · rename_i k e hu
    split at h
    all_goals first
      | (simp only [Option.some.injEq] at h; subst h)
      | cases h
    · rw [hx.c_inv, hy.c_inv]; simp [Op.equalIn, run_und hQ hu]
    · rw [hy.c_inv]; cases hx with | mp b R hs hb => simp [Op.equalIn, run_und hQ hu]
    · rw [hy.c_inv]; cases hx with | p _ _ hp => cases hp with | mp ks vs R es ck hm hx hk hv h1 h2 => simp [Op.equalIn, run_und hQ hu]
  · rename_i k e q hu
    split at h
    all_goals first
      | (simp only [Option.some.injEq] at h; subst h)
      | cases h
    · rw [hx.c_inv, hy.c_inv]; simp [Op.equalIn, run_und hQ hu]
    · rw [hy.c_inv]; cases hx with | clo f fs bs xs ys h1 h2 h3 h4 h5 h6 => simp [Op.equalIn, run_und hQ hu]
  · cases h

theorem scal_isAgg {t : TypeId} (h : scalT Q t = true) : aggT Q t = some false := by
  unfold scalT at h
  unfold aggT
  cases e : Q.und t with
  | none => simp [e] at h
  | some d => cases d <;> simp [e] at h ⊢

theorem run_part1 (hQ : TabOk P Q) {t : TypeId} (h : scalT Q t = true) {cs : Array Value} {o : Nat} {y : Value} (hy : cs[o]? = some y) : (part t cs o).run P w = .ok y w := by
  unfold part
  simp only [Sem.run_bind, run_isAgg hQ (scal_isAgg h) w, Result.andThen_ok, Bool.false_eq_true, if_false, hy, Sem.run_pure]

theorem eqPs_fields (hQ : TabOk P Q) {xs ys : List V} {vx vy : Array Value} (hx : ∀ (j : Nat) (c : V), xs[j]? = some c → ∃ y, vx[j]? = some y ∧ RepV g w c y) (hy : ∀ (j : Nat) (c : V), ys[j]? = some c → ∃ y, vy[j]? = some y ∧ RepV g w c y) (d : Nat) :
    ∀ (fs : List Field) (r : Bool), (∀ f, f ∈ fs → f.name ≠ "_") → eqPs Q xs ys (fs.map fun f => (f.offset, f.type)) = some r → (Op.eqFields (d + 1) vx vy fs).run P w = .ok r w
  | [], r, _, h => by simp [eqPs] at h; subst h; simp [Op.eqFields]
  | f :: fs, r, hn, h => by
    simp only [List.map_cons, eqPs] at h
    split at h
    · rename_i hs
      simp only [Option.bind_eq_some_iff] at h
      obtain ⟨a, ha, b, hb, r1, hr, h⟩ := h
      obtain ⟨ya, e1, ra⟩ := hx _ _ ha
      obtain ⟨yb, e2, rb⟩ := hy _ _ hb
      have h1 := eqS_rel hQ ra rb hr d
      simp only [Op.eqFields, hn f (by simp), ne_eq, not_false_eq_true, if_true, Sem.run_bind, run_part1 hQ hs e1, run_part1 hQ hs e2, h1, Result.andThen_ok]
      cases r1
      · simp at h; subst h; simp
      · simp only [if_true] at h
        simpa using eqPs_fields hQ hx hy d fs r (fun q hq => hn q (by simp [hq])) h
    · cases h

theorem eqPs_items (hQ : TabOk P Q) {xs ys : List V} {vx vy : Array Value} (hx : ∀ (j : Nat) (c : V), xs[j]? = some c → ∃ y, vx[j]? = some y ∧ RepV g w c y) (hy : ∀ (j : Nat) (c : V), ys[j]? = some c → ∃ y, vy[j]? = some y ∧ RepV g w c y) (d : Nat) {e : TypeId} :
    ∀ (is : List Nat) (r : Bool), eqPs Q xs ys (is.map fun i => (i, e)) = some r → (Op.eqItems (d + 1) e 1 vx vy is).run P w = .ok r w
  | [], r, h => by simp [eqPs] at h; subst h; simp [Op.eqItems]
  | i :: is, r, h => by
    simp only [List.map_cons, eqPs] at h
    split at h
    · rename_i hs
      simp only [Option.bind_eq_some_iff] at h
      obtain ⟨a, ha, b, hb, r1, hr, h⟩ := h
      obtain ⟨ya, e1, ra⟩ := hx _ _ ha
      obtain ⟨yb, e2, rb⟩ := hy _ _ hb
      have h1 := eqS_rel hQ ra rb hr d
      simp only [Op.eqItems, Nat.mul_one, Sem.run_bind, run_part1 hQ hs e1, run_part1 hQ hs e2, h1, Result.andThen_ok]
      cases r1
      · simp at h; subst h; simp
      · simp only [if_true] at h
        simpa using eqPs_items hQ hx hy d is r h
    · cases h

theorem agg_cells {xs : List PV} {y : Value} (h : RepV g w (.p (.agg xs)) y) : ∃ ys, y = .agg ys ∧ ∀ (j : Nat) (c : V), (xs.map V.p)[j]? = some c → ∃ y, ys[j]? = some y ∧ RepV g w c y := by
  cases h with | p _ _ hp => cases hp with
    | agg cs ys hl hc =>
      refine ⟨ys, rfl, fun j c hj => ?_⟩
      simp only [List.getElem?_map, Option.map_eq_some_iff] at hj
      obtain ⟨d, hd, rfl⟩ := hj
      have hlt : j < ys.size := by have := lt_of_get hd; omega
      refine ⟨ys[j], by simp [hlt], ?_⟩
      have := hc j d hd
      simp only [Array.getD_eq_getD_getElem?, Array.getElem?_eq_getElem hlt, Option.getD_some] at this
      exact .p _ _ this

theorem eqD_rel (hQ : TabOk P Q) {t : TypeId} {x y : V} {vx vy : Value} {r : Bool} (hx : RepV g w x vx) (hy : RepV g w y vy) (h : eqD Q t x y = some r) : (Op.equal t vx vy).run P w = .ok r w := by
  unfold eqD at h
  unfold Op.equal Op.maxDepth
  split at h
  · rename_i fs hu
    split at h
    · rename_i hp
      simp only [Bool.and_eq_true] at hp
      split at h
      · obtain ⟨ys, rfl, h1⟩ := agg_cells hx
        obtain ⟨zs, rfl, h2⟩ := agg_cells hy
        have hu' := hQ.und _ _ hu
        have hf : P.fieldsOf t = fs := by simp [Program.fieldsOf, hu']
        have := eqPs_fields hQ h1 h2 9998 fs.toList r (fun f hf => by
          have := Array.all_eq_true_iff_forall_mem.1 hp.2 f (Array.mem_toList_iff.1 hf)
          simpa using this) h
        rw [show (10000 : Nat) = 9999 + 1 from rfl, run_equalIn_struct w 9999 t ys zs (by rw [hf]; exact hu') (hQ.plain t hp.1).1, hf]
        exact this
      · cases h
    · cases h
  · rename_i n e hu
    split at h
    · rename_i hp
      simp only [Bool.and_eq_true, beq_iff_eq] at hp
      split at h
      · obtain ⟨ys, rfl, h1⟩ := agg_cells hx
        obtain ⟨zs, rfl, h2⟩ := agg_cells hy
        obtain ⟨i, hi, hsz⟩ := hQ.sz _ _ hp.2
        have hc : P.cellsOf e = 1 := by simp [Program.cellsOf, hi, hsz]
        have := eqPs_items hQ h1 h2 9998 (List.range n) r h
        rw [show (10000 : Nat) = 9999 + 1 from rfl, run_equalIn_array w 9999 ys zs (hQ.und _ _ hu) hi, hc]
        exact this
      · cases h
    · cases h
  · exact eqS_rel hQ hx hy h 9999

/-- the guard ahead of '==' asks nothing where no value of an interface is compared -/
theorem run_eqGuard (hQ : TabOk P Q) {op : BinOp} {t : TypeId} {ox oy : Operand} {x y : V} {vx vy : Value} {r : Bool} (hx : RepV g w x vx) (hy : RepV g w y vy) (h : eqD Q t x y = some r) : (eqGuard op t ox oy vx vy).run P w = .ok () w := by
  unfold eqGuard
  have key : (∃ a b, vx = .agg a ∧ vy = .agg b ∧ P.eqGuardType P.depth t = false) ∨ ((∀ a, vx ≠ .agg a) ∧ (vx ≠ .nilIface)) := by
    unfold eqD at h
    split at h
    · split at h
      · rename_i hp
        simp only [Bool.and_eq_true] at hp
        split at h
        · obtain ⟨ys, rfl, h1⟩ := agg_cells hx
          obtain ⟨zs, rfl, h2⟩ := agg_cells hy
          exact .inl ⟨ys, zs, rfl, rfl, (hQ.plain t hp.1).2⟩
        · cases h
      · cases h
    · split at h
      · rename_i hp
        simp only [Bool.and_eq_true] at hp
        split at h
        · obtain ⟨ys, rfl, h1⟩ := agg_cells hx
          obtain ⟨zs, rfl, h2⟩ := agg_cells hy
          exact .inl ⟨ys, zs, rfl, rfl, (hQ.plain t hp.1).2⟩
        · cases h
      · cases h
    · refine .inr ?_
      unfold eqS at h
      split at h
      · simp only [Option.bind_eq_some_iff] at h
        obtain ⟨a, ha, _⟩ := h
        rw [toB_some ha] at hx; rw [hx.b_inv]; simp
      · simp only [Option.bind_eq_some_iff] at h
        obtain ⟨a, ha, _⟩ := h
        rw [toI_some (k := a.1) (n := a.2) ha] at hx; rw [hx.i_inv]; simp
      · simp only [Option.bind_eq_some_iff] at h
        obtain ⟨a, ha, _⟩ := h
        rw [toS_some ha] at hx; rw [hx.s_inv]; simp
      all_goals first
        | (cases h; done)
        | (cases hx with
            | lptr => simp
            | ptr => simp
            | aptr _ _ _ _ _ _ _ hy => obtain ⟨q, rfl⟩ := hy; simp
            | sl => simp
            | mp => simp
            | clo => simp
            | own0 => simp
            | own => simp
            | p _ _ hp => cases hp with
              | agg => simp at h
              | c x hc => rcases hc with rfl | rfl | rfl | rfl <;> first | (simp at h; done) | simp
              | _ => simp
            | _ => simp at h)
  rcases key with ⟨a, b, rfl, rfl, hg⟩ | ⟨h1, h2⟩
  · cases op <;> simp [hg]
  · cases op <;> first | rfl | (cases vx <;> simp_all)
end

section
variable {P : Program} {E : Env} {K : Ctx} {o : Oper} {Cx : Nat → Nat} {g : Gh} {w : World} {a : Act} {fr : Fr} {m : Mem}

theorem eqGuard_plain {op : BinOp} {t : TypeId} {ox oy : Operand} {vx vy : Value} (h1 : ∀ a, vx ≠ .agg a) (h2 : vx ≠ .nilIface) : (eqGuard op t ox oy vx vy).run P w = .ok () w := by
  unfold eqGuard
  cases op <;> first | rfl | (cases vx <;> simp_all)

/-- values that only '==' and '!=' take -/
def eqOnly : Value → Bool
  | .bool _ | .pointer _ | .agg _ | .slice _ _ _ | .map _ | .func _ _ _ | .nilFunc => true
  | _ => false

theorem run_eql {t : TypeId} {x y : Value} {r : Bool} (h : eqOnly x = true) (he : (Op.equal t x y).run P w = .ok r w) : (binOp .eql t x y).run P w = .ok (.bool r) w := by
  have : binOp .eql t x y = (do pure (.bool (← Op.equal t x y))) := by cases x <;> first | rfl | cases h
  rw [this, Sem.run_bind, he]; rfl
theorem run_neq {t : TypeId} {x y : Value} {r : Bool} (h : eqOnly x = true) (he : (Op.equal t x y).run P w = .ok r w) : (binOp .neq t x y).run P w = .ok (.bool (!r)) w := by
  have : binOp .neq t x y = (do pure (.bool (!(← Op.equal t x y)))) := by cases x <;> first | rfl | cases h
  rw [this, Sem.run_bind, he]; rfl

theorem eqD_shape {Q : Tab} {t : TypeId} {x y : V} {vx : Value} {r : Bool} (hx : RepV g w x vx) (h : eqD Q t x y = some r)
    (h1 : ∀ k a k' b, x = .p (.i k a) → y = .p (.i k' b) → False) (h2 : ∀ a b, x = .p (.s a) → y = .p (.s b) → False) : eqOnly vx = true := by
  unfold eqD at h
  split at h
  · split at h
    · split at h
      · obtain ⟨ys, rfl, _⟩ := agg_cells hx; rfl
      · cases h
    · cases h
  · split at h
    · split at h
      · obtain ⟨ys, rfl, _⟩ := agg_cells hx; rfl
      · cases h
    · cases h
  · unfold eqS at h
    split at h
    · simp only [Option.bind_eq_some_iff] at h
      obtain ⟨a, ha, _⟩ := h
      rw [toB_some ha] at hx; rw [hx.b_inv]; rfl
    · simp only [Option.bind_eq_some_iff] at h
      obtain ⟨a, ha, b, hb, _⟩ := h
      exact (h1 _ _ _ _ (toI_some (k := a.1) (n := a.2) ha) (toI_some (k := b.1) (n := b.2) hb)).elim
    · simp only [Option.bind_eq_some_iff] at h
      obtain ⟨a, ha, b, hb, _⟩ := h
      exact (h2 _ _ (toS_some ha) (toS_some hb)).elim
    all_goals first
      | (cases h; done)
      | (cases hx with
          | aptr _ _ _ _ _ _ _ hy => obtain ⟨q, rfl⟩ := hy; rfl
          | p _ _ hp => cases hp with
            | c x hc => rcases hc with rfl | rfl | rfl | rfl <;> first | (simp at h; done) | rfl
            | _ => first | (simp at h; done) | rfl
          | _ => first | (simp at h; done) | rfl)

theorem intBin_rel {op : BinOp} {k : IntKind} {x y : Int} {v : V} (h : intBin op k x y = some v) (t : TypeId) (hs : op ≠ .shl) (hs' : op ≠ .shr) : ∃ z, (binOp op t (.int k x) (.int k y)).run P w = .ok z w ∧ RepV g w v z ∧ ∀ B, pm B v z = 0 := by
  unfold intBin at h
  split at h
  all_goals first
    | (simp only [Option.some.injEq] at h; subst h
       first
        | exact ⟨_, by simp [binOp, Op.intArith, Op.intBits, Op.intCmp], .p _ _ (.i _ _), fun B => pm_p B _ _⟩
        | exact ⟨_, by simp [binOp, Op.intArith, Op.intBits, Op.intCmp], .p _ _ (.b _), fun B => pm_p B _ _⟩)
    | (split at h
       · cases h
       · rename_i hb
         simp only [Option.some.injEq] at h; subst h
         exact ⟨_, by simp [binOp, Op.intDiv, hb], .p _ _ (.i _ _), fun B => pm_p B _ _⟩)
    | cases h

theorem strBin_rel {op : BinOp} {x y : List UInt8} {v : V} (h : strBin op x y = some v) (t : TypeId) : ∃ z, (binOp op t (.string ⟨x.toArray⟩) (.string ⟨y.toArray⟩)).run P w = .ok z w ∧ RepV g w v z ∧ ∀ B, pm B v z = 0 := by
  unfold strBin at h
  split at h
  all_goals first
    | (simp only [Option.some.injEq] at h; subst h
       exact ⟨_, by simp [binOp, Op.stringOp, ba_list], .p _ _ (.b _), fun B => pm_p B _ _⟩)
    | skip
  · split at h
    · rename_i hl
      simp only [Option.some.injEq] at h; subst h
      refine ⟨.string ⟨(x ++ y).toArray⟩, ?_, .p _ _ (.s _), fun B => pm_p B _ _⟩
      have e1 : (⟨x.toArray⟩ : ByteArray).size = x.length := by simp [ByteArray.size]
      have e2 : (⟨y.toArray⟩ : ByteArray).size = y.length := by simp [ByteArray.size]
      have e3 : ¬ (((⟨x.toArray⟩ : ByteArray).size + (⟨y.toArray⟩ : ByteArray).size : Nat) : Int) > IntKind.i64.max := by
        rw [e1, e2]
        have : IntKind.i64.max = 2 ^ 63 - 1 := by decide
        rw [this]; omega
      have e4 : ((⟨x.toArray⟩ : ByteArray) ++ ⟨y.toArray⟩) = ⟨(x ++ y).toArray⟩ := by
        apply ByteArray.ext
        rw [ByteArray.data_append]
        simp
      simp only [binOp, Op.stringOp, if_neg e3, e4, Sem.run_pure]
    · cases h
  · cases h

theorem ok_binOp (hQ : TabOk P E.Q) (h : Rel Cx g w a.tmps fr m) (nf : Bool) {op : BinOp} {t : TypeId} {x y : Operand} {z : TypeId} (ho : o.op = .binOp op t x y z) {v : V} (hv : binV E.Q op t (argOf nf fr x) (argOf nf fr y) = some v) :
    OpOk P E K o Cx g w a fr m ⟨v, m, fr⟩ := by
  have hx := evA h nf x
  have hy := evA h nf y
  have fin : ∀ z, (eqGuard op t x y (a.eval x) (a.eval y)).run P w = .ok () w → (binOp op t (a.eval x) (a.eval y)).run P w = .ok z w → RepV g w v z → (∀ B, pm B v z = 0) → OpOk P E K o Cx g w a fr m ⟨v, m, fr⟩ := by
    intro z h1 h2 h3 h4
    refine .yield h (y := z) ?_ h3 h4
    simp [execOp, ho, h1, h2, Result.andThen]
  unfold binV at hv
  split at hv
  · rename_i k n k' n' e1 e2
    rw [e1] at hx; rw [e2] at hy
    have i1 := hx.i_inv; have i2 := hy.i_inv
    have gd : (eqGuard op t x y (a.eval x) (a.eval y)).run P w = .ok () w := eqGuard_plain (by rw [i1]; simp) (by rw [i1]; simp)
    split at hv
    · split at hv
      · cases hv
      · rename_i hb
        simp only [Option.some.injEq] at hv; subst hv
        exact fin _ gd (by simp [i1, i2, binOp, Op.shift, hb]) (.p _ _ (.i _ _)) fun B => pm_p B _ _
    · split at hv
      · cases hv
      · rename_i hb
        simp only [Option.some.injEq] at hv; subst hv
        exact fin _ gd (by simp [i1, i2, binOp, Op.shift, hb]) (.p _ _ (.i _ _)) fun B => pm_p B _ _
    · rename_i h1 h2
      split at hv
      · rename_i hk
        subst hk
        obtain ⟨z, r1, r2, r3⟩ := intBin_rel (P := P) (g := g) (w := w) hv t (fun e => h1 e) (fun e => h2 e)
        exact fin z gd (by rw [i1, i2]; exact r1) r2 r3
      · cases hv
  · rename_i n n' e1 e2
    rw [e1] at hx; rw [e2] at hy
    have i1 := hx.s_inv; have i2 := hy.s_inv
    have gd : (eqGuard op t x y (a.eval x) (a.eval y)).run P w = .ok () w := eqGuard_plain (by rw [i1]; simp) (by rw [i1]; simp)
    obtain ⟨z, r1, r2, r3⟩ := strBin_rel (P := P) (g := g) (w := w) hv t
    exact fin z gd (by rw [i1, i2]; exact r1) r2 r3
  · rename_i h1 h2
    split at hv
    · simp only [Option.map_eq_some_iff] at hv
      obtain ⟨r, hr, rfl⟩ := hv
      have hs := eqD_shape hx hr (fun k a k' b e1 e2 => h1 k a k' b e1 e2) (fun a b e1 e2 => h2 a b e1 e2)
      exact fin _ (run_eqGuard hQ hx hy hr) (run_eql hs (eqD_rel hQ hx hy hr)) (.p _ _ (.b _)) fun B => pm_p B _ _
    · simp only [Option.map_eq_some_iff] at hv
      obtain ⟨r, hr, rfl⟩ := hv
      have hs := eqD_shape hx hr (fun k a k' b e1 e2 => h1 k a k' b e1 e2) (fun a b e1 e2 => h2 a b e1 e2)
      exact fin _ (run_eqGuard hQ hx hy hr) (run_neq hs (eqD_rel hQ hx hy hr)) (.p _ _ (.b _)) fun B => pm_p B _ _
    · cases hv

end
end Go.Wn

namespace Go.Wn
open Go

theorem natIx_some {v : V} {len i : Nat} (h : natIx v len = some i) : ∃ k n, v = .p (.i k n) ∧ 0 ≤ n ∧ n < len ∧ i = n.toNat ∧ i < len := by
  unfold natIx at h
  cases e : toI v with
  | none => simp [e] at h
  | some q =>
    obtain ⟨k, n⟩ := q
    simp only [e] at h
    split at h
    · rename_i hn
      simp only [Option.some.injEq] at h
      exact ⟨k, n, toI_some e, hn.1, hn.2, h.symm, by omega⟩
    · cases h

section
variable {g : Gh} {w : World}

theorem addOff_rel {a b : V} {y : Value} {n : Nat} (ha : RepV g w a y) (h : addOff a n = some b) : ∃ q, y = .pointer (some q) ∧ RepV g w b (.pointer (some (q.add n))) ∧ hasOwn b = false := by
  cases ha with
  | lptr b j B hb =>
    simp only [addOff, Option.some.injEq] at h; subst h
    exact ⟨_, rfl, by rw [Addr.add_mid]; exact .lptr _ _ _ hb, rfl⟩
  | ptr b j B hs hb =>
    simp only [addOff, Option.some.injEq] at h; subst h
    exact ⟨_, rfl, by rw [Addr.add_mid]; exact .ptr _ _ _ hs hb, rfl⟩
  | aptr b i j ver sz n' y hy hs hv hB =>
    simp only [addOff, Option.some.injEq] at h; subst h
    obtain ⟨q, rfl⟩ := hy
    refine ⟨q, rfl, .aptr b i (j + n) ver sz n' _ ⟨_, rfl⟩ hs hv fun e => ?_, rfl⟩
    obtain ⟨B, h1, h2⟩ := hB e
    simp only [Value.pointer.injEq, Option.some.injEq] at h2
    subst h2
    exact ⟨B, h1, by rw [Addr.add_mid, Nat.add_assoc]⟩
  | p x y hp =>
    cases hp with
    | ref cs off B o f hc hr =>
      simp only [addOff, Option.some.injEq] at h; subst h
      refine ⟨_, rfl, ?_, rfl⟩
      rw [Addr.add_mid, Nat.add_assoc]
      exact .p _ _ (.ref cs (off + n) B o f hc hr)
    | _ => simp [addOff] at h
  | _ => simp [addOff] at h

theorem aggCells_rel {v : V} {y : Value} {cs : List V} (hv : RepV g w v y) (h : v.aggCells = some cs) : ∃ ys, y = .agg ys ∧ ys.size = cs.length ∧ (∀ (j : Nat) (c : V), cs[j]? = some c → RepV g w c (ys.getD j undef)) ∧ (hasOwn v = false → hasOwnL cs = false) := by
  cases hv with
  | agg cs' ys hl hc =>
    simp only [V.aggCells, Option.some.injEq] at h; subst h
    exact ⟨ys, rfl, hl, hc, fun e => by simpa [hasOwn] using e⟩
  | p x y hp =>
    cases hp with
    | agg ps ys hl hc =>
      simp only [V.aggCells, Option.some.injEq] at h; subst h
      refine ⟨ys, rfl, by simpa using hl, fun j c hj => ?_, fun _ => ?_⟩
      · simp only [List.getElem?_map, Option.map_eq_some_iff] at hj
        obtain ⟨d, hd, rfl⟩ := hj
        exact .p _ _ (hc j d hd)
      · have : ∀ l : List PV, hasOwnL (l.map V.p) = false := by intro l; induction l with
          | nil => rfl
          | cons x xs ih => simp [hasOwnL, hasOwn, ih]
        exact this ps
    | _ => simp [V.aggCells] at h
  | _ => simp [V.aggCells] at h

theorem getCells_some {cs vs : List V} {j n : Nat} (h : getCells cs j n = some vs) : j + n ≤ cs.length ∧ vs.length = n ∧ ∀ (i : Nat) (c : V), vs[i]? = some c → i < n ∧ cs[j + i]? = some c := by
  unfold getCells at h
  split at h
  · rename_i hle
    simp only [Option.some.injEq] at h; subst h
    refine ⟨hle, by simp; omega, fun i c hi => ?_⟩
    rw [List.getElem?_take] at hi
    split at hi
    · rename_i hlt
      rw [List.getElem?_drop] at hi; exact ⟨hlt, hi⟩
    · cases hi
  · cases h

theorem run_part {P : Program} {Q : Tab} (hQ : TabOk P Q) {t : TypeId} {n : Nat} {b : Bool} (hs : Q.sz t = some n) (ha : aggT Q t = some b) {ys : Array Value} {o : Nat} (hle : o + n ≤ ys.size) (hn : b = false → n = 1) :
    (part t ys o).run P w = .ok (valOf b n fun j => ys.getD (o + j) undef) w := by
  unfold part
  simp only [Sem.run_bind, run_isAgg hQ ha w, Result.andThen_ok]
  cases b with
  | true =>
    simp only [if_true, Sem.run_bind, run_sizeOf hQ hs w, Result.andThen_ok, Sem.run_pure, valOf]
    congr 2
    apply Array.ext
    · simp; omega
    · intro i h1 h2
      simp at h1 h2
      simp [Array.getElem_extract, Array.getD_eq_getD_getElem?, show o + i < ys.size from by omega]
  | false =>
    have := hn rfl
    subst this
    have hlt : o < ys.size := by omega
    simp [valOf, hlt]

/-- a part of an aggregate -/
theorem part_rel {P : Program} {Q : Tab} (hQ : TabOk P Q) {t : TypeId} {n o : Nat} {cs vs : List V} {ys : Array Value} {u : V} (hs : Q.sz t = some n) (hl : ys.size = cs.length) (hc : ∀ (j : Nat) (c : V), cs[j]? = some c → RepV g w c (ys.getD j undef))
    (hg : getCells cs o n = some vs) (hu : ofCells Q t vs = some u) : ∃ z, (part t ys o).run P w = .ok z w ∧ RepV g w u z := by
  obtain ⟨h1, h2, h3⟩ := getCells_some hg
  obtain ⟨b, hb, hb1, hr, _⟩ := ofCells_rel (g := g) (w := w) (f := fun j => ys.getD (o + j) undef) hu (fun j c hj => hc _ _ (h3 j c hj).2)
  rw [h2] at hb1 hr
  exact ⟨_, run_part hQ hs hb (by omega) hb1, hr⟩

theorem cpL_rel {cs : List V} {f : Nat → Value} (hc : ∀ (j : Nat) (c : V), cs[j]? = some c → RepV g w c (f j)) : ∀ (j : Nat) (c : V), (cpL cs)[j]? = some c → RepV g w c (f j) := fun j c hj => by
  rw [cpL_get] at hj
  simp only [Option.map_eq_some_iff] at hj
  obtain ⟨d, hd, rfl⟩ := hj
  exact (hc j d hd).cp
end

theorem hasOwnL_getCells {cs vs : List V} {j n : Nat} (h : getCells cs j n = some vs) (ho : hasOwnL cs = false) : hasOwnL vs = false := by
  obtain ⟨_, _, h3⟩ := getCells_some h
  have key : ∀ l : List V, (∀ c ∈ l, hasOwn c = false) → hasOwnL l = false := by
    intro l
    induction l with
    | nil => intro _; rfl
    | cons x xs ih => intro h; simp only [hasOwnL, h x (by simp), ih (fun c hc => h c (by simp [hc])), Bool.or_self]
  refine key vs fun c hc => ?_
  obtain ⟨i, hi⟩ := List.getElem?_of_mem hc
  exact hasOwnL_get cs _ c ho (h3 i c hi).2

section
variable {P : Program} {E : Env} {K : Ctx} {o : Oper} {Cx : Nat → Nat} {g : Gh} {w : World} {a : Act} {fr : Fr} {m : Mem}

theorem fieldOf_some {Q : Tab} {t : TypeId} {f off : Nat} {ty : TypeId} (h : fieldOf Q t f = some (off, ty)) : ∃ fs x, Q.und t = some (.struct fs) ∧ fs[f]? = some x ∧ x.offset = off ∧ x.type = ty := by
  unfold fieldOf at h
  split at h
  · rename_i fs hu
    split at h
    · rename_i x hx
      simp only [Option.some.injEq, Prod.mk.injEq] at h
      exact ⟨fs, x, hu, hx, h.1, h.2⟩
    · cases h
  · cases h

theorem ok_fieldAddr (hQ : TabOk P E.Q) (h : Rel Cx g w a.tmps fr m) (nf : Bool) {t : TypeId} {x : Operand} {i : Nat} (ho : o.op = .fieldAddr t x i) {q : Nat × TypeId} (hq : fieldOf E.Q t i = some q) {n : Nat} (hn : E.Q.sz q.2 = some n) (h0 : n ≠ 0)
    {v : V} (hv : addOff (argOf nf fr x) q.1 = some v) : OpOk P E K o Cx g w a fr m ⟨v, m, fr⟩ := by
  obtain ⟨off, ty⟩ := q
  obtain ⟨fs, fd, hu, hf, rfl, rfl⟩ := fieldOf_some hq
  obtain ⟨p, hy, hr, hno⟩ := addOff_rel (evA h nf x) hv
  refine .yield h (y := .pointer (some (p.add fd.offset))) ?_ hr fun B => pm_noown B _ _ hno
  simp [execOp, ho, hy, Instr.fieldAt, run_und hQ hu, hf, Instr.sureAddr, fieldPlace, run_sizeOf hQ hn, h0]

theorem ok_field (hQ : TabOk P E.Q) (h : Rel Cx g w a.tmps fr m) (nf : Bool) {t : TypeId} {x : Operand} {i : Nat} (ho : o.op = .field t x i) {q : Nat × TypeId} (hq : fieldOf E.Q t i = some q) {n : Nat} (hn : E.Q.sz q.2 = some n)
    {xs cs : List V} (hx : (argOf nf fr x).aggCells = some xs) (hc : getCells xs q.1 n = some cs) {v : V} (hv : ofCells E.Q q.2 cs = some v) : OpOk P E K o Cx g w a fr m ⟨cp v, m, fr⟩ := by
  obtain ⟨off, ty⟩ := q
  obtain ⟨fs, fd, hu, hf, rfl, rfl⟩ := fieldOf_some hq
  obtain ⟨ys, hy, hl, hr, _⟩ := aggCells_rel (evA h nf x) hx
  obtain ⟨z, h1, h2⟩ := part_rel hQ hn hl hr hc hv
  refine .yield h (y := z) ?_ h2.cp fun B => pm_noown B _ _ (hasOwn_cp v)
  simp [execOp, ho, hy, Instr.field, run_und hQ hu, hf, asAgg, h1]

theorem ok_index (hQ : TabOk P E.Q) (h : Rel Cx g w a.tmps fr m) (nf : Bool) {t : TypeId} {x i : Operand} (ho : o.op = .index t x i) {v : V} (hv : ixVal E.Q t (argOf nf fr x) (argOf nf fr i) = some v) : OpOk P E K o Cx g w a fr m ⟨v, m, fr⟩ := by
  have hx := evA h nf x
  have hi := evA h nf i
  unfold ixVal at hv
  split at hv
  · rename_i len e _ hu
    simp only [Option.bind_eq_some_iff] at hv
    obtain ⟨sz, hsz, ix, hix, xs, hxs, cs, hcs, hv⟩ := hv
    obtain ⟨k, n, hin, n0, n1, rfl, _⟩ := natIx_some hix
    rw [hin] at hi
    obtain ⟨ys, hy, hl, hr, _⟩ := aggCells_rel hx hxs
    obtain ⟨g1, g2, g3⟩ := getCells_some hcs
    obtain ⟨b, hb, hb1, hrv, _⟩ := ofCells_rel (g := g) (w := w) (f := fun j => ys.getD (n.toNat * sz + j) undef) hv (cpL_rel fun j c hj => hr _ _ (g3 j c hj).2)
    rw [cpL_length, g2] at hb1 hrv
    refine .yield h (y := _) ?_ hrv fun B => pm_noown B _ _ (ofCells_noown hv (hasOwnL_cp cs))
    have := run_part hQ (w := w) hsz hb (ys := ys) (o := n.toNat * sz) (by omega) hb1
    simp [execOp, ho, hy, hi.i_inv, Instr.index, asIntOf, run_und hQ hu, n0, n1, run_sizeOf hQ hsz, this]
  · rename_i l hu e
    rw [e] at hx
    simp only [Option.bind_eq_some_iff, Option.map_eq_some_iff] at hv
    obtain ⟨ix, hix, c, hc, rfl⟩ := hv
    obtain ⟨k, n, hin, n0, n1, rfl, _⟩ := natIx_some hix
    rw [hin] at hi
    refine .yield h (y := .int .u8 c.toNat) ?_ (.p _ _ (.i _ _)) fun B => pm_p B _ _
    have e1 : (⟨l.toArray⟩ : ByteArray)[n.toNat]? = some c := by
      have hlt := lt_of_get hc
      have h2 : n.toNat < (⟨l.toArray⟩ : ByteArray).size := by simpa [ByteArray.size] using hlt
      rw [getElem?_pos (⟨l.toArray⟩ : ByteArray) n.toNat h2]
      have h3 : (⟨l.toArray⟩ : ByteArray)[n.toNat] = l[n.toNat] := rfl
      rw [h3]
      rw [List.getElem?_eq_getElem hlt] at hc
      exact hc
    simp [execOp, ho, hx.s_inv, hi.i_inv, Instr.index, asIntOf, run_und hQ hu, n0, e1]
  · cases hv

theorem ok_indexAddr (hQ : TabOk P E.Q) (h : Rel Cx g w a.tmps fr m) (nf : Bool) {t : TypeId} {x i : Operand} (ho : o.op = .indexAddr t x i) {v : V} (hv : ixAddr E.Q m.h t (argOf nf fr x) (argOf nf fr i) = some v) : OpOk P E K o Cx g w a fr m ⟨v, m, fr⟩ := by
  have hx := evA h nf x
  have hi := evA h nf i
  unfold ixAddr at hv
  split at hv
  · rename_i len e hu
    simp only [Option.bind_eq_some_iff] at hv
    obtain ⟨sz, hsz, ix, hix, hv⟩ := hv
    obtain ⟨k, n, hin, n0, n1, rfl, _⟩ := natIx_some hix
    rw [hin] at hi
    obtain ⟨p, hy, hr, hno⟩ := addOff_rel hx hv
    refine .yield h (y := .pointer (some (p.add (n.toNat * sz)))) ?_ hr fun B => pm_noown B _ _ hno
    simp [execOp, ho, hy, hi.i_inv, Instr.indexAt, asIntOf, run_und hQ hu, n0, n1, run_sizeOf hQ hsz, Instr.sureAddr]
  · rename_i e hu
    simp only [Option.bind_eq_some_iff] at hv
    obtain ⟨sz, hsz, hv⟩ := hv
    have pure : ∀ es : List PV, RepV g w (.p (.lst es)) (a.eval x) → ((natIx (argOf nf fr i) es.length).bind fun i => match es[i]? with
        | some y => if y.cells.length = sz then some (V.p (.ref y.cells 0)) else none
        | none => none) = some v → OpOk P E K o Cx g w a fr m ⟨v, m, fr⟩ := by
      intro es hx hv
      simp only [Option.bind_eq_some_iff] at hv
      obtain ⟨ix, hix, hv⟩ := hv
      obtain ⟨k, n, hin, n0, n1, rfl, hlt⟩ := natIx_some hix
      rw [hin] at hi
      split at hv
      · rename_i y hy
        split at hv
        · rename_i hysz
          simp only [Option.some.injEq] at hv
          subst hv
          generalize hz : a.eval x = z at hx
          cases hx with | p _ _ hp => cases hp with
            | lst es q cap sz' B off f hq hz' hcap hc hr =>
              have hs : sz' = sz := by have := hz' _ _ hy; omega
              subst hs
              have hq' : q = some ⟨B, off, none⟩ := by
                rcases hq with rfl | hq
                · simp at hy
                · exact hq
              subst hq'
              refine .yield h (y := .pointer (some ⟨B, off + n.toNat * sz', none⟩)) ?_ (.p _ _ (.ref y.cells 0 B (off + n.toNat * sz') (f n.toNat) (fun j c hj => ?_) fun j c hj => hr _ y j c hy hj)) fun B => pm_p B _ _
              · simp [execOp, ho, hz, hi.i_inv, Instr.indexAt, asIntOf, run_und hQ hu, n0, n1, run_sizeOf hQ hsz, Addr.add_mid]
              · have := hc _ y j c hy hj
                rw [Nat.add_assoc]
                exact this
        · cases hv
      · cases hv
    split at hv
    · rename_i es e; rw [e] at hx; exact pure es hx hv
    · rename_i es e
      rw [e] at hx
      exact pure es hx.cp hv
    · rename_i b off len ver e
      rw [e] at hx
      simp only [Option.bind_eq_some_iff] at hv
      obtain ⟨ix, hix, hv⟩ := hv
      obtain ⟨k, n, hin, n0, n1, rfl, hlt⟩ := natIx_some hix
      rw [hin] at hi
      split at hv
      · rename_i s rs hb
        split at hv
        · rename_i hcnd
          simp only [Bool.and_eq_true, decide_eq_true_eq] at hcnd
          obtain ⟨⟨c1, c2⟩, c3⟩ := hcnd
          simp only [Option.some.injEq] at hv
          subst hv
          generalize hz : a.eval x = z at hx
          cases hx with
          | sl b off len ver sz' n' ad cap hl hs hv' hB =>
            have hsh : g.sh b = some (s, rs.length) := by rw [h.hp.sh]; simp [shp, hb]
            rw [hs] at hsh
            simp only [Option.some.injEq, Prod.mk.injEq] at hsh
            obtain ⟨e1, e2⟩ := hsh
            subst e1
            obtain ⟨B, ys, T, hρ, had, hblk, hsize⟩ := hB (by omega)
            have had' : ad = ⟨B, off * sz', none⟩ := by
              rcases had with h0 | h0
              · omega
              · exact h0
            subst had'
            refine .yield h (y := .pointer (some ⟨B, off * sz' + n.toNat * sz, none⟩)) ?_ ?_ fun B => by simp [pm]
            · simp [execOp, ho, hz, hi.i_inv, Instr.indexAt, asIntOf, run_und hQ hu, n0, n1, run_sizeOf hQ hsz, Addr.add_mid]
            · refine .aptr b _ 0 ver sz' n' _ ⟨_, rfl⟩ hs hv' fun _ => ⟨B, hρ, ?_⟩
              rw [Nat.add_zero, Nat.add_mul, c2]
        · cases hv
      · cases hv
    · cases hv
  · cases hv

theorem toI_rep {v : V} {y : Value} {k : IntKind} {n : Int} (hv : RepV g w v y) (h : toI v = some (k, n)) : y = .int k n := by
  rw [toI_some h] at hv; exact hv.i_inv

end
end Go.Wn

namespace Go.Wn
open Go

section
variable {P : Program} {g : Gh} {w : World}

theorem cutIx_run {v : Option V} {y : Option Value} {d l r : Nat} (hv : ∀ x, v = some x → ∃ z, y = some z ∧ RepV g w x z) (hn : v = none → y = none) (h : cutIx v d l = some r) :
    (v = none ∧ y = none ∧ r = d) ∨ (∃ k n, y = some (.int k n) ∧ 0 ≤ n ∧ n ≤ l ∧ r = n.toNat) := by
  unfold cutIx at h
  cases v with
  | none => simp at h; exact .inl ⟨rfl, hn rfl, h.symm⟩
  | some x =>
    obtain ⟨z, rfl, hz⟩ := hv x rfl
    simp only at h
    cases e : toI x with
    | none => simp [e] at h
    | some q =>
      obtain ⟨k, n⟩ := q
      simp only [e] at h
      split at h
      · rename_i hc
        simp only [Option.some.injEq] at h
        rw [toI_some e] at hz
        exact .inr ⟨k, n, by rw [hz.i_inv], hc.1, hc.2, h.symm⟩
      · cases h

theorem run_sliceBound {k : IntKind} {n : Int} {l : Nat} {c : BoundsCode} (h0 : 0 ≤ n) (h1 : n ≤ l) : (Instr.sliceBound (.int k n) l c).run P w = .ok n.toNat w := by
  simp [Instr.sliceBound, asIntOf, h0, h1]

/-- two bounds -/
theorem run_sliceBounds {isSlice : Bool} {len cap : Nat} {lo hi : Option V} {ylo yhi : Option Value} {hx lx : Nat} (hle : len ≤ cap)
    (e1 : ∀ x, lo = some x → ∃ z, ylo = some z ∧ RepV g w x z) (e1n : lo = none → ylo = none) (e2 : ∀ x, hi = some x → ∃ z, yhi = some z ∧ RepV g w x z) (e2n : hi = none → yhi = none)
    (hh : cutIx hi len len = some hx) (hl : cutIx lo 0 hx = some lx) : (Instr.sliceBounds isSlice len cap ylo yhi none).run P w = .ok (lx, hx, cap) w ∧ lx ≤ hx ∧ hx ≤ len := by
  have a2 := cutIx_run e2 e2n hh
  have a1 := cutIx_run e1 e1n hl
  unfold Instr.sliceBounds
  rcases a2 with ⟨_, rfl, rfl⟩ | ⟨k, n, rfl, n0, n1, rfl⟩
  · rcases a1 with ⟨_, rfl, rfl⟩ | ⟨k', n', rfl, n0', n1', rfl⟩
    · exact ⟨by simp, by omega, Nat.le_refl _⟩
    · exact ⟨by simp [run_sliceBound (P := P) (w := w) n0' n1'], by omega, Nat.le_refl _⟩
  · have hc : n ≤ (cap : Int) := by omega
    rcases a1 with ⟨_, rfl, rfl⟩ | ⟨k', n', rfl, n0', n1', rfl⟩
    · exact ⟨by simp [run_sliceBound (P := P) (w := w) n0 hc], by omega, by omega⟩
    · exact ⟨by simp [run_sliceBound (P := P) (w := w) n0 hc, run_sliceBound (P := P) (w := w) n0' n1'], by omega, by omega⟩

/-- three bounds, that cut everything away -/
theorem run_sliceBounds3 {len cap : Nat} {lo : Option V} {hi mx : V} {ylo : Option Value} {yhi ymx : Value} {hx lx mxx : Nat}
    (e1 : ∀ x, lo = some x → ∃ z, ylo = some z ∧ RepV g w x z) (e1n : lo = none → ylo = none) (e2 : RepV g w hi yhi) (e3 : RepV g w mx ymx)
    (hm : cutIx (some mx) 0 0 = some mxx) (hh : cutIx (some hi) 0 mxx = some hx) (hl : cutIx lo 0 hx = some lx) : (Instr.sliceBounds true len cap ylo (some yhi) (some ymx)).run P w = .ok (0, 0, 0) w := by
  have a3 := cutIx_run (y := some ymx) (fun x e => by cases e; exact ⟨ymx, rfl, e3⟩) (fun e => by cases e) hm
  have a2 := cutIx_run (y := some yhi) (fun x e => by cases e; exact ⟨yhi, rfl, e2⟩) (fun e => by cases e) hh
  have a1 := cutIx_run e1 e1n hl
  rcases a3 with ⟨h, _⟩ | ⟨k3, n3, h3, n03, n13, rfl⟩
  · cases h
  rcases a2 with ⟨h, _⟩ | ⟨k2, n2, h2, n02, n12, rfl⟩
  · cases h
  simp only [Option.some.injEq] at h3 h2
  subst h3; subst h2
  have z3 : n3 = 0 := by omega
  subst z3
  have z2 : n2 = 0 := by omega
  subst z2
  have c3 : (0 : Int) ≤ (cap : Int) := by omega
  unfold Instr.sliceBounds
  rcases a1 with ⟨_, rfl, rfl⟩ | ⟨k', n', rfl, n0', n1', rfl⟩
  · simp [run_sliceBound (P := P) (w := w) n03 c3, run_sliceBound (P := P) (w := w) (k := k2) (n := 0) (l := 0) (c := .slice3B) (by omega) (by omega)]
  · have z1 : n' = 0 := by omega
    subst z1
    simp [run_sliceBound (P := P) (w := w) n03 c3, run_sliceBound (P := P) (w := w) (k := k2) (n := 0) (l := 0) (c := .slice3B) (by omega) (by omega), run_sliceBound (P := P) (w := w) (k := k') (n := 0) (l := 0) (c := .slice3C) (by omega) (by omega)]
end

theorem ba_extract (l : List UInt8) (a h : Nat) (hh : h ≤ l.length) : (⟨l.toArray⟩ : ByteArray).extract a h = ⟨((l.take h).drop a).toArray⟩ := by
  apply ByteArray.ext
  rw [ByteArray.data_extract]
  apply Array.ext'
  simp [List.extract, List.drop_take]

section
variable {P : Program} {E : Env} {K : Ctx} {o : Oper} {Cx : Nat → Nat} {g : Gh} {w : World} {a : Act} {fr : Fr} {m : Mem}

theorem ok_slice (hQ : TabOk P E.Q) (h : Rel Cx g w a.tmps fr m) (nf : Bool) {t : TypeId} {x : Operand} {lo hi mx : Option Operand} (ho : o.op = .slice t x lo hi mx) {v : V}
    (hv : sliceV E.Q m.h t (argOf nf fr x) (lo.map (argOf nf fr)) (hi.map (argOf nf fr)) (mx.map (argOf nf fr)) = some v) : OpOk P E K o Cx g w a fr m ⟨v, m, fr⟩ := by
  have hx := evA h nf x
  have opt : ∀ (q : Option Operand), (∀ x, q.map (argOf nf fr) = some x → ∃ z, q.map a.eval = some z ∧ RepV g w x z) ∧ (q.map (argOf nf fr) = none → q.map a.eval = none) := by
    intro q
    cases q with
    | none => exact ⟨fun x e => (by cases e), fun _ => rfl⟩
    | some q => exact ⟨fun x e => by simp at e; subst e; exact ⟨_, rfl, evA h nf q⟩, fun e => by cases e⟩
  unfold sliceV at hv
  split at hv
  · rename_i hu
    split at hv
    · cases hv
    · rename_i hmx
      simp only [Option.bind_eq_some_iff, Option.some.injEq] at hv
      obtain ⟨l, hl, hh, h1, ll, h2, rfl⟩ := hv
      have hmx' : mx = none := by cases mx <;> simp_all
      subst hmx'
      rw [toS_some hl] at hx
      obtain ⟨b1, b2, b3⟩ := run_sliceBounds (P := P) (isSlice := false) (Nat.le_refl l.length) (opt lo).1 (opt lo).2 (opt hi).1 (opt hi).2 h1 h2
      refine .yield h (y := .string ⟨((l.take hh).drop ll).toArray⟩) ?_ (.p _ _ (.s _)) fun B => pm_p B _ _
      have e1 : (⟨l.toArray⟩ : ByteArray).size = l.length := by simp [ByteArray.size]
      simp [execOp, ho, hx.s_inv, Instr.sliceAt, Instr.slice, run_und hQ hu, e1, b1, ba_extract l ll hh b3]
  · rename_i e hu
    simp only [Option.bind_eq_some_iff] at hv
    obtain ⟨sz, hsz, hv⟩ := hv
    split at hv
    · rename_i hmx
      have hmx' : mx = none := by cases mx <;> simp_all
      subst hmx'
      split at hv
      · rename_i es ex
        rw [ex] at hx
        split at hv
        · rename_i hk
          simp only [Option.bind_eq_some_iff, Option.some.injEq] at hv
          obtain ⟨hh, h1, ll, h2, rfl⟩ := hv
          generalize hz : a.eval x = z at hx
          cases hx with | p _ _ hp => cases hp with
            | lst es q cap sz' B off f hq hz' hcap hc hr =>
              obtain ⟨b1, b2, b3⟩ := run_sliceBounds (P := P) (isSlice := true) hcap (opt lo).1 (opt lo).2 (opt hi).1 (opt hi).2 h1 h2
              refine .yield h (y := .slice (if cap = ll then q else q.map (·.add (ll * sz))) (hh - ll) (cap - ll)) ?_ (.p _ _ ?_) fun B => pm_p B _ _
              · simp [execOp, ho, hz, Instr.sliceAt, Instr.slice, run_und hQ hu, b1, run_sizeOf hQ hsz]
              · have hlen : ((es.take hh).drop ll).length = hh - ll := by simp; omega
                have key := RepP.lst (w := w) (X := g.X) ((es.take hh).drop ll) (if cap = ll then q else q.map (·.add (ll * sz))) (cap - ll) sz' B (off + ll * sz') (fun i j => f (ll + i) j) ?_ ?_ ?_ ?_ ?_
                · rw [hlen] at key; exact key
                · by_cases e0 : hh - ll = 0
                  · left; exact List.length_eq_zero_iff.1 (by rw [hlen]; exact e0)
                  · right
                    have hne : es ≠ [] := by rintro rfl; simp at b3; omega
                    have hs : sz' = sz := by
                      cases es with
                      | nil => exact absurd rfl hne
                      | cons y ys =>
                        simp only [headOk, beq_iff_eq] at hk
                        have := hz' 0 y (by simp); omega
                    subst hs
                    rcases hq with hq | hq
                    · exact absurd hq hne
                    · subst hq
                      have : cap ≠ ll := by omega
                      simp [this, Addr.add_mid]
                · intro i y hy
                  rw [List.getElem?_drop, List.getElem?_take] at hy
                  split at hy
                  · exact hz' _ _ hy
                  · cases hy
                · rw [hlen]; omega
                · intro i y j c hy hj
                  rw [List.getElem?_drop, List.getElem?_take] at hy
                  split at hy
                  · have := hc _ y j c hy hj
                    rwa [show off + ((ll + i) * sz' + j) = off + ll * sz' + (i * sz' + j) from by rw [Nat.add_mul]; omega] at this
                  · cases hy
                · intro i y j c hy hj
                  rw [List.getElem?_drop, List.getElem?_take] at hy
                  split at hy
                  · exact hr _ y j c hy hj
                  · cases hy
        · cases hv
      · rename_i ex
        rw [ex] at hx
        simp only [Option.bind_eq_some_iff, Option.some.injEq] at hv
        obtain ⟨hh, h1, ll, h2, rfl⟩ := hv
        obtain ⟨b1, b2, b3⟩ := run_sliceBounds (P := P) (isSlice := true) (Nat.le_refl 0) (opt lo).1 (opt lo).2 (opt hi).1 (opt hi).2 h1 h2
        have z1 : hh = 0 := by omega
        have z2 : ll = 0 := by omega
        subst z1; subst z2
        refine .yield h (y := .slice none 0 0) ?_ (.p _ _ .nils) fun B => pm_p B _ _
        simp [execOp, ho, hx.nils_inv, Instr.sliceAt, Instr.slice, run_und hQ hu, b1, run_sizeOf hQ hsz]
      · rename_i b off len ver ex
        rw [ex] at hx
        split at hv
        · rename_i s _ hsh
          split at hv
          · rename_i hs
            subst hs
            simp only [Option.bind_eq_some_iff, Option.some.injEq] at hv
            obtain ⟨hh, h1, ll, h2, rfl⟩ := hv
            generalize hz : a.eval x = z at hx
            cases hx with
            | sl b off len ver sz' n' ad cap hl hs hv' hB =>
              obtain ⟨b1, b2, b3⟩ := run_sliceBounds (P := P) (isSlice := true) hl (opt lo).1 (opt lo).2 (opt hi).1 (opt hi).2 h1 h2
              refine .yield h (y := .slice (some (if cap = ll then ad else ad.add (ll * s))) (hh - ll) (cap - ll)) ?_ ?_ fun B => by simp [pm]
              · simp only [execOp, ho, hz, Instr.sliceAt, Instr.slice, Sem.run_bind, run_und hQ hu, Option.map_none, b1, run_sizeOf hQ hsz, Result.andThen_ok, Sem.run_pure]
                by_cases e : cap = ll
                · rw [if_pos e, if_pos e]
                · rw [if_neg e, if_neg e]; rfl
              · rw [h.hp.sh] at hs
                rw [hsh] at hs
                simp only [Option.some.injEq, Prod.mk.injEq] at hs
                obtain ⟨e1, e2⟩ := hs
                subst e1
                refine .sl b _ _ ver s n' _ _ (by omega) (by rw [h.hp.sh, hsh, e2]) hv' fun ev => ?_
                obtain ⟨B, ys, T, r1, r2, r3, r4⟩ := hB ev
                refine ⟨B, ys, T, r1, ?_, r3, by rw [← r4, show off + ll + (cap - ll) = off + cap from by omega]⟩
                by_cases e : cap = ll
                · left; omega
                · right
                  rcases r2 with r2 | r2
                  · omega
                  · subst r2; rw [if_neg e, Addr.add_mid, Nat.add_mul]
          · cases hv
        · cases hv
      · cases hv
    · rename_i mxv hmx
      obtain ⟨mxo, rfl⟩ : ∃ q, mx = some q := by cases mx <;> simp_all
      simp only [Option.map_some, Option.some.injEq] at hmx
      subst hmx
      have fin : ∀ (ad : Option Addr) (l c : Nat) (hiv : V) (hh ll mm : Nat), a.eval x = .slice ad l c → hi.map (argOf nf fr) = some hiv → cutIx (some (argOf nf fr mxo)) 0 0 = some mm → cutIx (some hiv) 0 mm = some hh → cutIx (lo.map (argOf nf fr)) 0 hh = some ll →
          OpOk P E K o Cx g w a fr m ⟨.own [], m, fr⟩ := by
        intro ad l c hiv hh ll mm hz hhi h3 h2 h1
        obtain ⟨hio, rfl⟩ : ∃ q, hi = some q := by cases hi <;> simp_all
        simp only [Option.map_some, Option.some.injEq] at hhi
        subst hhi
        have b1 := run_sliceBounds3 (P := P) (len := l) (cap := c) (opt lo).1 (opt lo).2 (evA h nf hio) (evA h nf mxo) h3 h2 h1
        refine .yield h (y := .slice ad 0 0) ?_ (.own0 _) fun B => pm_own_nil B _
        simp only [execOp, ho, hz, Instr.sliceAt, Instr.slice, Sem.run_bind, run_und hQ hu, Option.map_some, b1, run_sizeOf hQ hsz, Result.andThen_ok, Sem.run_pure]
        simp
      split at hv
      · rename_i es hiv ex ehi
        rw [ex] at hx
        simp only [Option.bind_eq_some_iff, Option.some.injEq] at hv
        obtain ⟨mm, h3, hh, h2, ll, h1, rfl⟩ := hv
        generalize hz : a.eval x = z at hx
        cases hx with | p _ _ hp => cases hp with
          | lst es q cap sz' B off f hq hz' hcap hc hr => exact fin _ _ _ hiv hh ll mm hz ehi h3 h2 h1
      · rename_i b off len ver hiv ex ehi
        rw [ex] at hx
        simp only [Option.bind_eq_some_iff, Option.some.injEq] at hv
        obtain ⟨mm, h3, hh, h2, ll, h1, rfl⟩ := hv
        generalize hz : a.eval x = z at hx
        cases hx with
        | sl => exact fin _ _ _ hiv hh ll mm hz ehi h3 h2 h1
      · cases hv
  · cases hv

end
end Go.Wn

namespace Go.Wn
open Go

theorem getD_rd {tm : Array Value} {ds : List Deferred} (t : Nat) : Act.eval ⟨tm, ds⟩ (.tmp t) = tm.getD t undef := rfl

theorem pmL_set {B : Nat} {vs : List V} {ys : Array Value} {i : Nat} {c c' : V} (h : vs[i]? = some c) : pmL B (vs.set i c') ys 0 + pm B c (ys.getD i undef) = pmL B vs ys 0 + pm B c' (ys.getD i undef) := by
  have key : ∀ (vs : List V) (i k : Nat), vs[i]? = some c → pmL B (vs.set i c') ys k + pm B c (ys.getD (k + i) undef) = pmL B vs ys k + pm B c' (ys.getD (k + i) undef) := by
    intro vs
    induction vs with
    | nil => intro i k h; simp at h
    | cons x xs ih =>
      intro i k h
      cases i with
      | zero => simp at h; subst h; simp [pmL]; omega
      | succ i =>
        have := ih i (k + 1) (by simpa using h)
        simp only [List.set_cons_succ, pmL]
        rw [show k + (i + 1) = k + 1 + i from by omega]
        omega
  have := key vs i 0 h
  simpa using this

theorem cpL_set {vs : List V} {i : Nat} {c : V} (h : vs[i]? = some c) : cpL (vs.set i (cp c)) = cpL vs := by
  induction vs generalizing i with
  | nil => simp at h
  | cons x xs ih =>
    cases i with
    | zero => simp at h; subst h; simp [cpL, cp_cp]
    | succ i => simp only [List.set_cons_succ, cpL]; rw [ih (by simpa using h)]

theorem setD_same {tm : Array Value} {t : Nat} (h : t < tm.size) : tm.setIfInBounds t (tm.getD t undef) = tm := by
  apply Array.ext
  · simp
  · intro i h1 h2
    by_cases e : t = i
    · subst e; simp [Array.getD_eq_getD_getElem?, h]
    · rw [Array.getElem_setIfInBounds_ne _ e]

/-- the right to append goes out of one component of a tuple -/
theorem Rel.takePart {Cx : Nat → Nat} {g : Gh} {w : World} {tm : Array Value} {fr : Fr} {m : Mem} (h : Rel Cx g w tm fr m) {s i : Nat} {vs : List V} {ys : Array Value} {v : V} (hs : s < tm.size) (hr : rd fr s = .tup vs) (hy : tm.getD s undef = .tuple ys) (hv : vs[i]? = some v) :
    RelV Cx g w tm (setF fr s (.tup (vs.set i (cp v)))) m v (ys.getD i undef) ∧ Lost fr (setF fr s (.tup (vs.set i (cp v)))) := by
  have hrep := h.frm s
  rw [hr, hy] at hrep
  cases hrep with
  | tup cs ys hl hc =>
    have hvr := hc i v hv
    refine ⟨⟨h.hp, h.lm, fun t => ?_, fun B => ?_, h.cnew, hvr⟩, fun t => ?_⟩
    · rw [rd_setF]
      by_cases e : s = t
      · subst e
        simp only [if_true, hy]
        refine .tup _ ys (by simpa using hl) fun j c hj => ?_
        rw [List.getElem?_set] at hj
        split at hj
        · rename_i e2
          split at hj
          · simp only [Option.some.injEq] at hj
            subst hj; subst e2
            exact hvr.cp
          · cases hj
        · exact hc j c hj
      · simp only [e, if_false]; exact h.frm t
    · have h1 := h.one B
      have h2 := fcnt_setF (B := B) (fr := fr) (tm := tm) (d := s) (v := .tup (vs.set i (cp v))) (y := tm.getD s undef) hs
      rw [setD_same hs, hr, hy] at h2
      simp only [pm] at h2
      have h3 := pmL_set (B := B) (ys := ys) (c' := cp v) hv
      rw [pm_noown B (cp v) _ (hasOwn_cp v)] at h3
      omega
    · rw [rd_setF]
      by_cases e : s = t
      · subst e
        simp only [if_true, hr, cp]
        rw [cpL_set hv]
      · simp only [e, if_false]

section
variable {P : Program} {E : Env} {K : Ctx} {o : Oper} {Cx : Nat → Nat} {g : Gh} {w : World} {a : Act} {fr : Fr} {m : Mem}

theorem tup_inv {vs : List V} {y : Value} (h : RepV g w (.tup vs) y) : ∃ ys, y = .tuple ys ∧ ys.size = vs.length ∧ ∀ (j : Nat) (c : V), vs[j]? = some c → RepV g w c (ys.getD j undef) := by
  cases h with | tup cs ys hl hc => exact ⟨ys, rfl, hl, hc⟩

theorem run_extract {ys : Array Value} {i : Nat} (h : i < ys.size) : (Instr.extract (.tuple ys) i).run P w = .ok (ys.getD i undef) w := by
  simp [Instr.extract, h]

theorem ok_extract (h : Rel Cx g w a.tmps fr m) {sq : Bool} {pre : List Oper} {S : Nat → Prop} (hi : Ids P E sq S pre fr a.tmps w) {t i : Nat} (ho : o.op = .extract (.tmp t) i) {tk : Bool} (hS : tk = true → S t) {vs : List V} {v : V}
    (hr : (if tk then rd fr (tupS pre fr t) else rd fr t) = .tup vs) (hv : vs[i]? = some v) :
    OpOk P E K o Cx g w a fr m (if tk && hasOwn v then ⟨v, m, setF fr (tupS pre fr t) (.tup (vs.set i (cp v)))⟩ else ⟨cp v, m, fr⟩) := by
  have hs : a.tmps.getD (if tk then tupS pre fr t else t) undef = a.tmps.getD t undef := by
    cases tk with
    | false => rfl
    | true =>
      simp only [if_true]
      unfold tupS
      split
      · rfl
      · split
        · rename_i s hc
          split
          · exact (hi.cpy t s (hS rfl) hc).symm
          · rfl
        · rfl
  have hrep := h.frm (if tk then tupS pre fr t else t)
  have hr' : rd fr (if tk then tupS pre fr t else t) = .tup vs := by cases tk <;> simpa using hr
  rw [hr'] at hrep
  obtain ⟨ys, hy, hl, hc⟩ := tup_inv hrep
  have hlt : i < ys.size := by have := lt_of_get hv; omega
  have he : (execOp a.eval o).run P w = .ok (.value (ys.getD i undef)) w := by
    have : a.eval (.tmp t) = .tuple ys := by show a.tmps.getD t undef = _; rw [← hs, hy]
    simp [execOp, ho, this, run_extract hlt]
  by_cases hcnd : (tk && hasOwn v) = true
  · simp only [hcnd, if_true]
    simp only [Bool.and_eq_true] at hcnd
    obtain ⟨rfl, hov⟩ := hcnd
    simp only [if_true] at hr' hy
    have hso : hasOwn (rd fr (tupS pre fr t)) = true := by
      rw [hr']
      simp only [hasOwn]
      have : ∀ (l : List V) (i : Nat), l[i]? = some v → hasOwnL l = true := by
        intro l
        induction l with
        | nil => intro i hi; simp at hi
        | cons x xs ih =>
          intro i hi
          cases i with
          | zero => simp at hi; subst hi; simp [hasOwnL, hov]
          | succ i => simp only [hasOwnL]; rw [ih i (by simpa using hi)]; simp
      exact this vs i hv
    obtain ⟨r1, r2⟩ := h.takePart (hasOwn_size h.frm hso) hr' hy hv
    exact .took (y := ys.getD i undef) he r1 r2
  · have : (tk && hasOwn v) = false := by simpa using hcnd
    simp only [this, Bool.false_eq_true, if_false]
    exact .yield h he (hc i v hv).cp fun B => pm_noown B _ _ (hasOwn_cp v)

theorem lst_inv {es : List PV} {y : Value} (h : RepV g w (.p (.lst es)) y) : ∃ q c, y = .slice q es.length c := by
  cases h with | p _ _ hp => cases hp with | lst es q cap sz B off f ha hz hcap hc hr => exact ⟨q, cap, rfl⟩

theorem mp_inv (h : Rel Cx g w a.tmps fr m) {b : Nat} {y : Value} {ks : List PV} {vs : List V} (hv : RepV g w (.mp b) y) (hb : m.h[b]? = some (.map ks vs)) :
    ∃ R es ck, y = .map (some R) ∧ g.ρ[b]? = some (some R) ∧ w.heap[R]? = some (.map es ck) ∧ es.size = ks.length ∧ vs.length = ks.length ∧ hasOwnL vs = false ∧
      (∀ (i : Nat) (k : PV), ks[i]? = some k → RepP w g.X k (es.getD i default).key) ∧ ∀ (i : Nat) (v : V), vs[i]? = some v → RepV g w v (es.getD i default).val := by
  cases hv with
  | mp b R hs hρ =>
    obtain ⟨h0, es, ck, h1, h2, h3, h4, h5, h6⟩ := h.hp.blk b _ R hb hρ
    exact ⟨R, es, ck, rfl, hρ, h1, h2, h3, h4, h5, h6⟩

theorem ok_len (hQ : TabOk P E.Q) (h : Rel Cx g w a.tmps fr m) (nf : Bool) {c : Call} (ho : o.op = .call c) (hc : c.callee = .builtin .len) {x : Operand} {t : TypeId} (hx1 : c.args.toList = [x]) (ht : c.argTypes.toList = [t])
    {v : V} (hv : lenB E.Q m.h t (argOf nf fr x) = some v) : OpOk P E K o Cx g w a fr m ⟨v, m, fr⟩ := by
  have hx := evA h nf x
  have ha : c.args.map a.eval = #[a.eval x] := by
    have : c.args = #[x] := by rw [← Array.toArray_toList (xs := c.args), hx1]
    rw [this]; simp
  have ht' : c.argTypes = #[t] := by rw [← Array.toArray_toList (xs := c.argTypes), ht]
  have fin : ∀ (n : Nat), v = .p (.i .i64 n) → (Builtin.len_ c.argTypes o.type #[a.eval x]).run P w = .ok (goInt n) w → OpOk P E K o Cx g w a fr m ⟨v, m, fr⟩ := by
    intro n e h1
    subst e
    refine .yield h (y := .int .i64 n) ?_ (.p _ _ (.i _ _)) fun B => pm_p B _ _
    simp [execOp, ho, resolve, hc, invoke, builtin, ha, h1, goInt]
  unfold lenB at hv
  split at hv
  · rename_i n e hu
    simp only [Option.some.injEq] at hv
    refine fin n hv.symm ?_
    simp only [Builtin.len_, ht', Sem.run_bind]
    simp only [List.getElem?_toArray, List.getElem?_cons_zero, Sem.run_bind, run_und hQ hu, Result.andThen_ok]
    cases a.eval x <;> rfl
  · rename_i hu
    split at hv
    · rename_i l e
      rw [e] at hx
      simp only [Option.some.injEq] at hv
      refine fin l.length hv.symm ?_
      have e1 : (⟨l.toArray⟩ : ByteArray).size = l.length := by simp [ByteArray.size]
      simp [Builtin.len_, ht', run_und hQ hu, hx.s_inv, e1]
    · cases hv
  · rename_i e hu
    split at hv
    · cases hv
    · cases hv
    · cases hv
    · cases hv
    · simp only [Option.map_eq_some_iff] at hv
      obtain ⟨n, hn, hv⟩ := hv
      refine fin n hv.symm ?_
      have hsl : ∃ q cp, a.eval x = .slice q n cp := by
        unfold lenV at hn
        split at hn
        · rename_i es e1
          rw [e1] at hx
          simp only [Option.some.injEq] at hn
          subst hn
          obtain ⟨q, c, e⟩ := lst_inv hx
          exact ⟨q, c, e⟩
        · rename_i es e1
          rw [e1] at hx
          simp only [Option.some.injEq] at hn
          subst hn
          obtain ⟨q, c, e⟩ := lst_inv hx.cp
          exact ⟨q, c, e⟩
        · rename_i e1
          rw [e1] at hx
          simp only [Option.some.injEq] at hn
          subst hn
          exact ⟨_, _, hx.nils_inv⟩
        · exfalso; simp_all
        · rename_i b off len ver e1
          rw [e1] at hx
          simp only [Option.some.injEq] at hn
          subst hn
          generalize hz : a.eval x = z at hx
          cases hx with | sl => exact ⟨_, _, rfl⟩
        · exfalso; simp_all
        · exfalso; simp_all
        · exfalso; simp_all
        · cases hn
      obtain ⟨q, cp, e1⟩ := hsl
      simp [Builtin.len_, ht', run_und hQ hu, e1]
  · rename_i kt e hu
    split at hv
    · rename_i b e1
      rw [e1] at hx hv
      simp only [Option.map_eq_some_iff, lenV] at hv
      obtain ⟨n, hn, hv⟩ := hv
      split at hn
      · rename_i ks vs hb
        simp only [Option.some.injEq] at hn
        subst hn
        obtain ⟨R, es, ck, hy, _, hh, hs, _⟩ := mp_inv h hx hb
        refine fin _ hv.symm ?_
        simp [Builtin.len_, ht', run_und hQ hu, hy, Go.run_getObj_map (P := P) w _ _ _ hh, hs]
      · cases hn
    · rename_i ks vs e1
      rw [e1] at hx hv
      simp only [Option.map_some, lenV, Option.some.injEq] at hv
      refine fin _ hv.symm ?_
      generalize hz : a.eval x = z at hx
      cases hx with | p _ _ hp => cases hp with
        | mp ks vs R es ck hm hx hk hv' h1 h2 => simp [Builtin.len_, ht', run_und hQ hu, Go.run_getObj_map (P := P) w _ _ _ hm, hk]
    · rename_i e1
      rw [e1] at hx hv
      simp only [Option.map_some, lenV, Option.some.injEq] at hv
      refine fin 0 hv.symm ?_
      simp [Builtin.len_, ht', run_und hQ hu, hx.c_inv]
    · cases hv
  · cases hv

theorem ok_min (h : Rel Cx g w a.tmps fr m) (nf : Bool) {c : Call} (ho : o.op = .call c) (hc : c.callee = .builtin .min) {x y : Operand} (hx1 : c.args.toList = [x, y])
    {k : IntKind} {p q : Int} (ex : argOf nf fr x = .p (.i k p)) (ey : argOf nf fr y = .p (.i k q)) : OpOk P E K o Cx g w a fr m ⟨.p (.i k (if q < p then q else p)), m, fr⟩ := by
  have hx := evA h nf x
  have hy := evA h nf y
  rw [ex] at hx; rw [ey] at hy
  have ha : c.args.map a.eval = #[a.eval x, a.eval y] := by
    have : c.args = #[x, y] := by rw [← Array.toArray_toList (xs := c.args), hx1]
    rw [this]; simp
  refine .yield h (y := .int k (if q < p then q else p)) ?_ (.p _ _ (.i _ _)) fun B => pm_p B _ _
  simp [execOp, ho, resolve, hc, invoke, builtin, ha, hx.i_inv, hy.i_inv, Builtin.min_, Builtin.min2]

end
end Go.Wn

namespace Go.Wn
open Go

section
variable {P : Program} {Q : Tab} {g : Gh} {w : World}

def hitOf (es : List MapEntry) (i : Nat) (r : Option Nat) : Option (Nat × Value) := r.map fun j => (j, (es.getD (j - i) default).val)

theorem findAsking_rel (hQ : TabOk P Q) {kt : TypeId} {k : PV} {kv : Value} (hk : RepV g w (.p k) kv) : ∀ (ks : List PV) (es : List MapEntry) (i : Nat) (r : Option Nat), es.length = ks.length → (∀ (j : Nat) (x : PV), ks[j]? = some x → RepP w g.X x (es.getD j default).key) →
    findK Q kt k ks i = some r → (∀ j, r = some j → i ≤ j) ∧ (Instr.findAsking kt kv es i).run P w = .ok (hitOf es i r) w
  | [], es, i, r, hl, _, h => by
    have : es = [] := List.length_eq_zero_iff.1 (by simpa using hl)
    subst this
    simp only [findK, Option.some.injEq] at h
    subst h
    exact ⟨fun j e => (by cases e), by simp [Instr.findAsking, hitOf]⟩
  | x :: xs, [], i, r, hl, _, h => by simp at hl
  | x :: xs, e :: es, i, r, hl, hr, h => by
    have h0 : RepV g w (.p x) e.key := .p _ _ (by have := hr 0 x (by simp); simpa using this)
    simp only [findK] at h
    split at h
    · rename_i he
      simp only [Option.some.injEq] at h
      subst h
      have := eqD_rel hQ hk h0 he
      refine ⟨fun j e => (by simp at e; omega), ?_⟩
      simp [Instr.findAsking, this, hitOf]
    · rename_i he
      have h1 := eqD_rel hQ hk h0 he
      obtain ⟨h2, h3⟩ := findAsking_rel hQ hk xs es (i + 1) r (by simpa using hl) (fun j y hy => by have := hr (j + 1) y (by simpa using hy); simpa using this) h
      refine ⟨fun j e => by have := h2 j e; omega, ?_⟩
      simp only [Instr.findAsking, Sem.run_bind, h1, Result.andThen_ok, Bool.false_eq_true, if_false, h3]
      unfold hitOf
      cases r with
      | none => rfl
      | some j =>
        have := h2 j rfl
        simp only [Option.map_some]
        rw [show j - i = (j - (i + 1)) + 1 from by omega]
        simp
    · cases h

theorem sameNow_rel (hQ : TabOk P Q) {kt : TypeId} {d : TypeDesc} (hd : P.underlying kt = some d) {k x : PV} {kv xv : Value} {b : Bool} (hk : RepV g w (.p k) kv) (hx : RepV g w (.p x) xv) (h : eqD Q kt (.p k) (.p x) = some b) :
    Instr.sameNow d kv xv = none ∨ Instr.sameNow d kv xv = some b := by
  have hu : ∀ d', Q.und kt = some d' → d' = d := fun d' e => by have := hQ.und _ _ e; rw [hd] at this; exact (Option.some.inj this).symm
  unfold eqD at h
  split at h
  · rename_i fs hf
    have := hu _ hf; subst this
    left; unfold Instr.sameNow; rfl
  · rename_i n e hf
    have := hu _ hf; subst this
    left; unfold Instr.sameNow; rfl
  · unfold eqS at h
    split at h
    · rename_i hf
      have := hu _ hf; subst this
      simp only [Option.bind_eq_some_iff, Option.some.injEq] at h
      obtain ⟨p, hp, q, hq, rfl⟩ := h
      rw [toB_some hp] at hk; rw [toB_some hq] at hx
      rw [hk.b_inv, hx.b_inv]
      right; rfl
    · rename_i q hf
      have := hu _ hf; subst this
      simp only [Option.bind_eq_some_iff] at h
      obtain ⟨p, hp, q', hq, h⟩ := h
      split at h
      · rename_i e
        simp only [Option.some.injEq] at h
        subst h
        rw [toI_some (k := p.1) (n := p.2) hp] at hk; rw [toI_some (k := q'.1) (n := q'.2) hq] at hx
        rw [hk.i_inv, hx.i_inv]
        right; simp [Instr.sameNow, e]
      · cases h
    · rename_i hf
      have := hu _ hf; subst this
      simp only [Option.bind_eq_some_iff, Option.some.injEq] at h
      obtain ⟨p, hp, q, hq, rfl⟩ := h
      rw [toS_some hp] at hk; rw [toS_some hq] at hx
      rw [hk.s_inv, hx.s_inv]
      right; simp only [Instr.sameNow, ba_eq]
    · rename_i q hf; have := hu _ hf; subst this; left; unfold Instr.sameNow; rfl
    · rename_i q hf; have := hu _ hf; subst this; left; unfold Instr.sameNow; rfl
    · rename_i q r hf; have := hu _ hf; subst this; left; unfold Instr.sameNow; rfl
    · rename_i q r s hf; have := hu _ hf; subst this; left; unfold Instr.sameNow; rfl
    · cases h

theorem findNow_rel (hQ : TabOk P Q) {kt : TypeId} {d : TypeDesc} (hd : P.underlying kt = some d) {k : PV} {kv : Value} (hk : RepV g w (.p k) kv) : ∀ (ks : List PV) (es : List MapEntry) (i : Nat) (r : Option Nat), es.length = ks.length → (∀ (j : Nat) (x : PV), ks[j]? = some x → RepP w g.X x (es.getD j default).key) →
    findK Q kt k ks i = some r → Instr.findNow d kv es i = none ∨ Instr.findNow d kv es i = some (hitOf es i r)
  | [], es, i, r, hl, _, h => by
    have : es = [] := List.length_eq_zero_iff.1 (by simpa using hl)
    subst this
    simp only [findK, Option.some.injEq] at h
    subst h
    right; simp [Instr.findNow, hitOf]
  | x :: xs, [], i, r, hl, _, h => by simp at hl
  | x :: xs, e :: es, i, r, hl, hr, h => by
    have h0 : RepV g w (.p x) e.key := .p _ _ (by have := hr 0 x (by simp); simpa using this)
    simp only [findK] at h
    split at h
    · rename_i he
      simp only [Option.some.injEq] at h
      subst h
      rcases sameNow_rel hQ hd hk h0 he with e1 | e1
      · left; simp [Instr.findNow, e1]
      · right; simp [Instr.findNow, e1, hitOf]
    · rename_i he
      rcases sameNow_rel hQ hd hk h0 he with e1 | e1
      · left; simp [Instr.findNow, e1]
      · have hle := (findAsking_rel hQ hk xs es (i + 1) r (by simpa using hl) (fun j y hy => by have := hr (j + 1) y (by simpa using hy); simpa using this) h).1
        rcases findNow_rel hQ hd hk xs es (i + 1) r (by simpa using hl) (fun j y hy => by have := hr (j + 1) y (by simpa using hy); simpa using this) h with e2 | e2
        · left; simp [Instr.findNow, e1, e2]
        · right
          simp only [Instr.findNow, e1, e2]
          unfold hitOf
          cases r with
          | none => rfl
          | some j =>
            have := hle j rfl
            simp only [Option.map_some]
            rw [show j - i = (j - (i + 1)) + 1 from by omega]
            simp
    · cases h

theorem run_findKey (hQ : TabOk P Q) {kt : TypeId} {d : TypeDesc} (hd : Q.und kt = some d) {k : PV} {kv : Value} (hk : RepV g w (.p k) kv) {ks : List PV} {es : List MapEntry} {r : Option Nat} (hl : es.length = ks.length) (hr : ∀ (j : Nat) (x : PV), ks[j]? = some x → RepP w g.X x (es.getD j default).key)
    (h : findK Q kt k ks 0 = some r) : (Instr.findKey kt kv es).run P w = .ok (hitOf es 0 r) w := by
  unfold Instr.findKey
  simp only [Sem.run_bind, run_und hQ hd, Result.andThen_ok]
  rcases findNow_rel hQ (hQ.und _ _ hd) hk ks es 0 r hl hr h with e | e
  · rw [e]; exact (findAsking_rel hQ hk ks es 0 r hl hr h).2
  · rw [e]; rfl

theorem run_checkKey1 (hQ : TabOk P Q) {t : TypeId} (h : scalT Q t = true) (em : Bool) (n : Nat) (y : Value) : (Instr.checkKey em (n + 1) t y).run P w = .ok () w := by
  unfold scalT at h
  cases e : Q.und t with
  | none => simp [e] at h
  | some d =>
    simp only [e] at h
    unfold Instr.checkKey
    simp only [Sem.run_bind, run_und hQ e, Result.andThen_ok]
    cases d <;> simp at h <;> rfl

theorem checkKey_rel (hQ : TabOk P Q) {kt : TypeId} {k : PV} {kv : Value} (hk : RepV g w (.p k) kv) (hf : keyFits Q kt k = true) (em : Bool) : (Instr.checkKey em 10000 kt kv).run P w = .ok () w := by
  unfold keyFits at hf
  have sc : scalT Q kt = true → (Instr.checkKey em 10000 kt kv).run P w = .ok () w := fun h => run_checkKey1 hQ h em 9999 kv
  split at hf
  · rename_i e; exact sc (by simp [scalT, e])
  · rename_i q e; exact sc (by simp [scalT, e])
  · rename_i e; exact sc (by simp [scalT, e])
  · rename_i fs e
    split at hf
    · rename_i cs
      obtain ⟨ys, rfl, hc⟩ := agg_cells hk
      rw [show (10000 : Nat) = 9999 + 1 from rfl, Instr.checkKey]
      simp only [Sem.run_bind, run_und hQ e, Result.andThen_ok]
      rw [← Array.forIn_toList]
      have deep : ∀ f ∈ fs.toList, scalT Q f.type = true ∧ f.offset < cs.length ∧ f.name ≠ "_" := fun f hf' => by
        have := Array.all_eq_true_iff_forall_mem.1 hf f (Array.mem_toList_iff.1 hf')
        simp only [Bool.and_eq_true, bne_iff_ne, ne_eq, decide_eq_true_eq] at this
        exact ⟨this.1.1, this.1.2, this.2⟩
      generalize fs.toList = L at deep
      induction L with
      | nil => simp
      | cons f L ih =>
        obtain ⟨h1, h2, h3⟩ := deep f (by simp)
        obtain ⟨y, hy, _⟩ := hc f.offset (.p cs[f.offset]) (by simp [h2])
        have p1 := run_part1 hQ (w := w) h1 hy
        have p2 := run_checkKey1 hQ (w := w) h1 em 9998 y
        simp only [List.forIn_cons, Sem.run_bind, h3, ne_eq, not_false_eq_true, if_true, Result.andThen_ok, p1, p2, Sem.run_pure]
        exact ih (fun y hy => deep y (by simp [hy]))
    · cases hf
  · rename_i n t e
    split at hf
    · rename_i cs
      simp only [Bool.and_eq_true, beq_iff_eq, decide_eq_true_eq] at hf
      obtain ⟨⟨h1, h2⟩, h3⟩ := hf
      obtain ⟨ys, rfl, hc⟩ := agg_cells hk
      rw [show (10000 : Nat) = 9999 + 1 from rfl, Instr.checkKey]
      simp only [Sem.run_bind, run_und hQ e, Result.andThen_ok]
      simp only [Std.Legacy.Range.forIn_eq_forIn_range', Std.Legacy.Range.size, Nat.sub_zero, Nat.add_one_sub_one, Nat.div_one]
      have each : ∀ i ∈ List.range' 0 n, i < n := fun i hi => by simpa [List.mem_range'] using hi
      generalize List.range' 0 n = is at each
      induction is with
      | nil => simp
      | cons i is ih =>
        have hi : i < cs.length := by have := each i (by simp); omega
        obtain ⟨y, hy, _⟩ := hc i (.p cs[i]) (by simp [hi])
        have p1 := run_part1 hQ (w := w) h1 (o := i * 1) (by rw [Nat.mul_one]; exact hy)
        have p2 := run_checkKey1 hQ (w := w) h1 em 9998 y
        simp only [List.forIn_cons, Sem.run_bind, run_sizeOf hQ h2, Result.andThen_ok, p1, p2, Sem.run_pure]
        exact ih (fun y hy => each y (by simp [hy]))
    · cases hf
  · cases hf

theorem keyOf_some {Q : Tab} {kt : TypeId} {v : V} {k : PV} (h : keyOf Q kt v = some k) : v = .p k ∧ flat k = true ∧ keyFits Q kt k = true := by
  unfold keyOf at h
  simp only [Option.bind_eq_some_iff] at h
  obtain ⟨k', h1, h2⟩ := h
  split at h2
  · rename_i hc
    simp only [Option.some.injEq] at h2
    subst h2
    simp only [Bool.and_eq_true] at hc
    exact ⟨isP_some h1, hc.1, hc.2⟩
  · cases h2

theorem keyFits_und {Q : Tab} {kt : TypeId} {k : PV} (h : keyFits Q kt k = true) : ∃ d, Q.und kt = some d := by
  unfold keyFits at h
  cases e : Q.und kt with
  | none => simp [e] at h
  | some d => exact ⟨d, rfl⟩

theorem findK_lt {Q : Tab} {kt : TypeId} {k : PV} : ∀ (ks : List PV) (i j : Nat), findK Q kt k ks i = some (some j) → i ≤ j ∧ j < i + ks.length
  | [], i, j, h => by simp [findK] at h
  | x :: xs, i, j, h => by
    simp only [findK] at h
    split at h
    · simp only [Option.some.injEq] at h; subst h; simp
    · have := findK_lt xs (i + 1) j h; simp; omega
    · cases h

end

section
variable {P : Program} {E : Env} {K : Ctx} {o : Oper} {Cx : Nat → Nat} {g : Gh} {w : World} {a : Act} {fr : Fr} {m : Mem}

theorem getD_toList {es : Array MapEntry} {i : Nat} : es.toList.getD i default = es.getD i default := by
  simp [List.getD, Array.getD_eq_getD_getElem?]

theorem rep_constCells (nf : Bool) {z : Value} {u : V} {t : TypeId} {Q : Tab} (h : ofCells Q t (z.cells.toList.map (constCell nf)) = some u) (g : Gh) (w : World) :
    ∃ b, aggT Q t = some b ∧ RepV g w u (valOf b z.cells.size fun j => z.cells.getD j undef) ∧ ∀ B y, pm B u y = 0 := by
  obtain ⟨b, hb, hb1, hr, hp⟩ := ofCells_rel (g := g) (w := w) (f := fun j => z.cells.getD j undef) h (fun j c hj => by
    simp only [List.getElem?_map, Array.getElem?_toList, Option.map_eq_some_iff] at hj
    obtain ⟨d, hd, rfl⟩ := hj
    have : z.cells.getD j undef = d := by simp [Array.getD_eq_getD_getElem?, hd]
    rw [this]
    exact rep_constCell g w nf d)
  refine ⟨b, hb, by simpa using hr, fun B y => ?_⟩
  have keyL : ∀ (l : List Value) (ys : Array Value) (k : Nat), pmL B (l.map (constCell nf)) ys k = 0 := by
    intro l
    induction l with
    | nil => intro ys k; rfl
    | cons a l ih => intro ys k; simp only [List.map_cons, pmL]; rw [hasOwn_constCell, ih]
  unfold ofCells at h
  split at h
  · simp only [Option.some.injEq] at h; subst h
    rw [pm_mkAgg]
    cases y <;> simp [pm]
    exact keyL _ _ _
  · split at h
    · rename_i v hv
      simp only [Option.some.injEq] at h; subst h
      have : v ∈ z.cells.toList.map (constCell nf) := by rw [hv]; simp
      obtain ⟨x, _, rfl⟩ := List.mem_map.1 this
      exact hasOwn_constCell nf x B y
    · cases h
  · cases h


theorem zero_valOf (hQ : TabOk P E.Q) {t : TypeId} {z : Value} {b : Bool} (hz : E.Q.zero t = some z) (hb : aggT E.Q t = some b) : valOf b z.cells.size (fun j => z.cells.getD j undef) = z := by
  have := hQ.zk t z b hz hb
  cases b with
  | true =>
    simp only [if_true] at this
    obtain ⟨cs, rfl⟩ := this
    simp only [valOf, if_true, Value.cells]
    congr 1
    apply Array.ext
    · simp
    · intro i h1 h2
      simp at h1
      simp [Array.getD_eq_getD_getElem?, h1]
  | false =>
    simp only [Bool.false_eq_true, if_false] at this
    simp [valOf, cells_one this]

/-- the zero value of a type -/
theorem zero_rel (hQ : TabOk P E.Q) {t : TypeId} {nf : Bool} {zc : List V} {u : V} (hz : zeroCells E.Q nf t = some zc) (hu : ofCells E.Q t zc = some u) (g : Gh) (w : World) :
    ∃ z, E.Q.zero t = some z ∧ RepV g w u z ∧ ∀ B y, pm B u y = 0 := by
  unfold zeroCells at hz
  split at hz
  · rename_i z hq
    simp only [Option.some.injEq] at hz
    subst hz
    obtain ⟨b, hb, hr, hp⟩ := rep_constCells nf hu g w
    rw [zero_valOf hQ hq hb] at hr
    exact ⟨z, hq, hr, hp⟩
  · cases hz

/-- what a map holds, as the model sees it -/
structure MapAt (g : Gh) (w : World) (y : Value) (es : Array MapEntry) (ks : List PV) (vs : List V) : Prop where
  len : es.toList.length = ks.length
  lenv : vs.length = ks.length
  keys : ∀ (j : Nat) (x : PV), ks[j]? = some x → RepP w g.X x (es.toList.getD j default).key
  vals : ∀ (j : Nat) (v : V), vs[j]? = some v → RepV g w v (es.getD j default).val
  at_ : (y = .map none ∧ es = #[]) ∨ ∃ R ck, y = .map (some R) ∧ w.heap[R]? = some (.map es ck)

theorem mapIn_rel (h : Rel Cx g w a.tmps fr m) {x : V} {y : Value} (hx : RepV g w x y) {kv : List PV × List V} (hm : mapIn m.h x = some kv) : ∃ es, MapAt g w y es kv.1 kv.2 := by
  unfold mapIn at hm
  split at hm
  · rename_i b
    split at hm
    · rename_i ks vs hb
      simp only [Option.some.injEq] at hm
      subst hm
      obtain ⟨R, es, ck, hy, hρ, hh, h1, h2, h3, h4, h5⟩ := mp_inv h hx hb
      exact ⟨es, ⟨by simpa using h1, h2, fun j x hj => by rw [getD_toList]; exact h4 j x hj, h5, .inr ⟨R, ck, hy, hh⟩⟩⟩
    · cases hm
  · rename_i ks vs
    simp only [Option.some.injEq] at hm
    subst hm
    cases hx with | p _ _ hp => cases hp with
      | mp ks vs R es ck hm hx hk hv h1 h2 =>
        refine ⟨es, ⟨by simpa using hk, by simpa using hv, fun j x hj => by rw [getD_toList]; exact h1 j x hj, fun j v hj => ?_, .inr ⟨R, ck, rfl, hm⟩⟩⟩
        simp only [List.getElem?_map, Option.map_eq_some_iff] at hj
        obtain ⟨d, hd, rfl⟩ := hj
        exact .p _ _ (h2 j d hd)
  · simp only [Option.some.injEq] at hm
    subst hm
    exact ⟨#[], ⟨rfl, rfl, fun j x hj => by simp at hj, fun j x hj => by simp at hj, .inl ⟨hx.c_inv, rfl⟩⟩⟩
  · cases hm

theorem ok_lookup (hQ : TabOk P E.Q) (h : Rel Cx g w a.tmps fr m) (nf : Bool) {t : TypeId} {x i : Operand} {ok : Bool} (ho : o.op = .lookup t x i ok) {v : V} (hv : lookV E.Q nf m.h t (argOf nf fr x) (argOf nf fr i) ok = some v) : OpOk P E K o Cx g w a fr m ⟨v, m, fr⟩ := by
  have hx := evA h nf x
  have hi := evA h nf i
  unfold lookV at hv
  split at hv
  · rename_i kt e hu
    simp only [Option.bind_eq_some_iff] at hv
    obtain ⟨kv, hkv, k, hk, r, hr, hv⟩ := hv
    obtain ⟨ek, hfl, hfit⟩ := keyOf_some hk
    rw [ek] at hi
    obtain ⟨es, hes⟩ := mapIn_rel h hx hkv
    have hck := checkKey_rel hQ hi hfit es.isEmpty
    obtain ⟨dk, hdk⟩ := keyFits_und hfit
    have hfk := run_findKey hQ hdk hi hes.len hes.keys hr
    have main : ∀ (z : Value) (b : Bool) (u : V), RepV g w u z → (∀ B y, pm B u y = 0) → v = (if ok then .tup [u, .p (.b b)] else u) →
        ((execOp a.eval o).run P w = .ok (.value (if ok then .tuple #[z, .bool b] else z)) w) → OpOk P E K o Cx g w a fr m ⟨v, m, fr⟩ := by
      intro z b u hz hp hvv hrun
      subst hvv
      refine .yield h (y := if ok then .tuple #[z, .bool b] else z) hrun ?_ ?_
      · cases ok with
        | false => exact hz
        | true =>
          refine .tup _ _ (by simp) fun j c hj => ?_
          cases j with
          | zero => simp at hj; subst hj; simpa using hz
          | succ j => cases j with
            | zero => simp at hj; subst hj; simpa using (.p _ _ (.b b) : RepV g w (.p (.b b)) (.bool b))
            | succ j => simp at hj
      · intro B
        cases ok with
        | false => exact hp B _
        | true => simp only [if_true, pm, pmL]; rw [hp]
    split at hv
    · rename_i j
      simp only [Option.map_eq_some_iff] at hv
      obtain ⟨u, hu', hv⟩ := hv
      refine main (es.getD j default).val true (cp u) (hes.vals j u hu').cp (fun B y => pm_noown B _ _ (hasOwn_cp u)) hv.symm ?_
      rcases hes.at_ with ⟨e1, e2⟩ | ⟨R, ck, e1, e2⟩
      · have := hes.len
        rw [e2] at this hfk
        simp only [execOp, ho, Instr.lookup, Sem.run_bind, run_und hQ hu, Result.andThen_ok, e1, Sem.run_pure, e2] at hck ⊢
        simp only [hck, hfk, hitOf, Option.map_some, Sem.run_pure, Nat.sub_zero, Result.andThen_ok, Sem.run_bind]
        simp
      · simp only [execOp, ho, Instr.lookup, Sem.run_bind, run_und hQ hu, Result.andThen_ok, e1, Go.run_getObj_map (P := P) w _ _ _ e2, hck, hfk, hitOf, Option.map_some, Sem.run_pure, Nat.sub_zero, getD_toList]
    · simp only [Option.bind_eq_some_iff, Option.map_eq_some_iff] at hv
      obtain ⟨u, ⟨zc, hz1, hz2⟩, hv⟩ := hv
      obtain ⟨z, hz, hzr, hzp⟩ := zero_rel hQ hz1 hz2 g w
      refine main z false (cp u) hzr.cp (fun B y => pm_noown B _ _ (hasOwn_cp u)) hv.symm ?_
      rcases hes.at_ with ⟨e1, e2⟩ | ⟨R, ck, e1, e2⟩
      · rw [e2] at hfk
        simp only [execOp, ho, Instr.lookup, Sem.run_bind, run_und hQ hu, Result.andThen_ok, e1, Sem.run_pure, e2] at hck ⊢
        simp only [hck, hfk, hitOf, Option.map_none, Sem.run_pure, Result.andThen_ok, Sem.run_bind, run_zeroValue hQ hz]
      · simp only [execOp, ho, Instr.lookup, Sem.run_bind, run_und hQ hu, Result.andThen_ok, e1, Go.run_getObj_map (P := P) w _ _ _ e2, hck, hfk, hitOf, Option.map_none, Sem.run_pure, run_zeroValue hQ hz]
  · cases hv

end
end Go.Wn

namespace Go.Wn
open Go

theorem Sm_mono_len {n k : Nat} {f : Nat → Nat} (h : k ≤ n) : Sm k f ≤ Sm n f := by
  induction n with
  | zero => have : k = 0 := by omega
            subst this; exact Nat.le_refl _
  | succ n ih =>
    by_cases e : k = n + 1
    · subst e; exact Nat.le_refl _
    · have := ih (by omega); simp only [Sm]; omega

theorem Sm_split {n k b : Nat} {f : Nat → Nat} (h : k ≤ b) (hb : b < n) : Sm k f + f b ≤ Sm n f := by
  have h1 := Sm_mono_len (f := f) h
  have h2 := Sm_mono_len (f := f) (k := b + 1) (n := n) (by omega)
  simp only [Sm] at h2
  omega

theorem hcnt_take {B k : Nat} {w : World} {h : Heap} {ρ : List (Option Nat)} : hcnt B w (h.take k) ρ = Sm (min k h.length) (hterm B w h ρ) := by
  unfold hcnt
  rw [List.length_take]
  refine Sm_congr fun i hi => ?_
  unfold hterm
  have : (h.take k).getD i default = h.getD i default := by
    simp only [List.getD]
    rw [List.getElem?_take, if_pos (by omega)]
  rw [this]

theorem hcnt_take_le {B k : Nat} {w : World} {h : Heap} {ρ : List (Option Nat)} : hcnt B w (h.take k) ρ ≤ hcnt B w h ρ := by
  rw [hcnt_take]; exact Sm_mono_len (Nat.min_le_right _ _)

section
variable {P : Program} {E : Env} {K : Ctx} {o : Oper} {Cx : Nat → Nat} {g : Gh} {w : World} {tm : Array Value} {fr : Fr} {m : Mem}

/-- a block of the heap that is written is counted nowhere else -/
theorem Dk_blk (h : Rel Cx g w tm fr m) {b R : Nat} {x : Blk} (hx : m.h[b]? = some x) (hR : g.ρ[b]? = some (some R)) (hb : K.ro ≤ b) (hw : writesMem E o = true) : Dk E K o Cx g w m R = 0 := by
  unfold Dk
  simp only [hw, if_true]
  rw [hcnt_take]
  have h1 := h.one R
  have hl := lt_of_get hx
  have h2 := Sm_split (n := m.h.length) (k := min K.ro m.h.length) (b := b) (f := hterm R w m.h g.ρ) (by omega) hl
  rw [hterm_some hx hR] at h2
  simp only [if_true] at h2
  have h3 := lids_le R w m.lm g.lam
  unfold hcnt at h1
  split <;> omega

/-- the same of a variable of the call's own -/
theorem Dk_box (h : Rel Cx g w tm fr m) {b R : Nat} {x : List V} (hx : m.lm[b]? = some x) (hR : g.lam[b]? = some R) (hw : isStore o = true) : Dk E K o Cx g w m R = 0 := by
  unfold Dk
  simp only [hw, if_true]
  have h1 := h.one R
  have h2 := Sm_get (n := m.lm.length) (d := b) (f := lterm R w m.lm g.lam) (lt_of_get hx)
  simp only [lterm, List.getD, hx, hR, Option.getD_some, if_true] at h2
  have h3 := hcnt_take_le (B := R) (k := K.ro) (w := w) (h := m.h) (ρ := g.ρ)
  have h4 := hids_le R w m.h g.ρ
  unfold lcnt at h1
  split <;> omega

theorem Dk_new (h : Rel Cx g w tm fr m) {B : Nat} (hB : w.heap.size ≤ B) : Dk E K o Cx g w m B = 0 := by
  unfold Dk
  have h2 := (RelV.of_rel h).cnt_lt hB
  have h3 := hcnt_take_le (B := B) (k := K.ro) (w := w) (h := m.h) (ρ := g.ρ)
  have h4 := hids_le B w m.h g.ρ
  have h5 := lids_le B w m.lm g.lam
  split <;> split <;> omega
end

theorem flat_eq : ∀ {x y : PV}, flat x = true → PV.beq x y = true → x = y := by
  have one : ∀ {x y : PV}, scal1 x = true → PV.beq x y = true → x = y := by
    intro x y hx h
    cases x <;> simp [scal1] at hx
    · cases y <;> simp [PV.beq] at h; subst h; rfl
    · cases y <;> simp [PV.beq] at h; obtain ⟨rfl, rfl⟩ := h; rfl
    · cases y <;> simp [PV.beq] at h; subst h; rfl
  have many : ∀ {xs ys : List PV}, xs.all scal1 = true → PV.beqL xs ys = true → xs = ys := by
    intro xs
    induction xs with
    | nil => intro ys _ h; cases ys with
      | nil => rfl
      | cons _ _ => simp [PV.beqL] at h
    | cons x xs ih => intro ys hx h; cases ys with
      | nil => simp [PV.beqL] at h
      | cons y ys =>
        simp only [PV.beqL, Bool.and_eq_true] at h
        simp only [List.all_cons, Bool.and_eq_true] at hx
        rw [one hx.1 h.1, ih hx.2 h.2]
  intro x y hx h
  cases x with
  | agg cs =>
    cases y <;> simp [PV.beq] at h
    rw [many hx h]
  | b _ => exact one hx h
  | i _ _ => exact one hx h
  | s _ => exact one hx h
  | _ => simp [flat, scal1] at hx

theorem flat_val {w w' : World} {X X' : Nat → Nat} {x : PV} {y y' : Value} (hf : flat x = true) (h : RepP w X x y) (h' : RepP w' X' x y') : y = y' := by
  have one : ∀ {x : PV} {y y' : Value}, scal1 x = true → RepP w X x y → RepP w' X' x y' → y = y' := by
    intro x y y' hs h h'
    cases x <;> simp [scal1] at hs <;> cases h <;> cases h' <;> rfl
  cases x with
  | agg cs =>
    cases h with
    | agg _ ys hl hc => cases h' with
      | agg _ ys' hl' hc' =>
        congr 1
        apply Array.ext
        · omega
        · intro i h1 h2
          have hi : i < cs.length := by omega
          have e1 := hc i cs[i] (by simp [hi])
          have e2 := hc' i cs[i] (by simp [hi])
          simp only [flat, List.all_eq_true] at hf
          have := one (hf cs[i] (by simp)) e1 e2
          simpa [Array.getD_eq_getD_getElem?, h1, h2] using this
  | b _ => exact one rfl h h'
  | i _ _ => exact one rfl h h'
  | s _ => exact one rfl h h'
  | _ => simp [flat, scal1] at hf

theorem sameBits_flat {w : World} {X : Nat → Nat} {x : PV} {y : Value} (hf : flat x = true) (h : RepP w X x y) : Instr.sameBits 10000 y y = true := by
  have one : ∀ (n : Nat) {x : PV} {y : Value}, scal1 x = true → RepP w X x y → Instr.sameBits n y y = true := by
    intro n x y hs h
    cases x <;> simp [scal1] at hs <;> cases h <;> simp [Instr.sameBits, beq_toListBytes]
  cases x with
  | agg cs =>
    cases h with
    | agg _ ys hl hc =>
      simp only [Instr.sameBits, beq_self_eq_true, Bool.true_and]
      rw [List.all_eq_true]
      intro p hp
      obtain ⟨i, hi⟩ := List.getElem?_of_mem hp
      rw [List.getElem?_zip_eq_some] at hi
      simp only [Array.getElem?_toList] at hi
      obtain ⟨h1, h2⟩ := hi
      rw [h1] at h2
      simp only [Option.some.injEq] at h2
      have hlt : i < ys.size := by
        rcases Nat.lt_or_ge i ys.size with h | h
        · exact h
        · rw [Array.getElem?_eq_none h] at h1; cases h1
      have e1 := hc i cs[i] (by simp [show i < cs.length from by omega])
      simp only [flat, List.all_eq_true] at hf
      have h3 := one 9999 (hf cs[i] (by simp)) e1
      have h4 : ys.getD i undef = p.1 := by simp [Array.getD_eq_getD_getElem?, h1]
      rw [h4] at h3
      rw [← h2]; exact h3
  | b _ => exact one _ rfl h
  | i _ _ => exact one _ rfl h
  | s _ => exact one _ rfl h
  | _ => simp [flat, scal1] at hf

/-- a map's block is exchanged -/
theorem Turn.map {w : World} {R ck : Nat} {es : Array MapEntry} (h : w.heap[R]? = some (.map es ck)) (es' : Array MapEntry) (ck' : Nat) : Turn R w { w with heap := w.heap.setIfInBounds R (.map es' ck') } where
  rest := fun B hB => by show (w.heap.setIfInBounds R _)[B]? = _; rw [Array.getElem?_setIfInBounds_ne (Ne.symm hB)]
  size := by simp
  sh := fun B ys T fr hb => by
    refine ⟨ys, ?_, rfl⟩
    show (w.heap.setIfInBounds R _)[B]? = _
    by_cases e : R = B
    · subst e; rw [h] at hb; cases hb
    · rw [Array.getElem?_setIfInBounds_ne e]; exact hb
  os := rfl
  tape := rfl
  output := rfl

theorem shp_set_map {h : Heap} {b : Nat} {ks ks' : List PV} {vs vs' : List V} (hb : h[b]? = some (.map ks vs)) : shp (h.set b (.map ks' vs')) = shp h := by
  funext c
  unfold shp
  by_cases e : b = c
  · subst e
    rw [List.getElem?_set_self (lt_of_get hb), hb]
  · rw [List.getElem?_set_ne e]

section
variable {P : Program} {E : Env} {K : Ctx} {o : Oper} {Cx : Nat → Nat} {g : Gh} {w : World} {a : Act} {fr : Fr} {m : Mem}

/-- a map's content turns -/
theorem Rel.mapTurn (h : Rel Cx g w a.tmps fr m) {b R ck : Nat} {ks ks' : List PV} {vs vs' : List V} {es es' : Array MapEntry} {ck' : Nat} (hb : m.h[b]? = some (.map ks vs)) (hR : g.ρ[b]? = some (some R)) (hh : w.heap[R]? = some (.map es ck))
    (hro : K.ro ≤ b) (hw : writesMem E o = true) (h1 : es'.size = ks'.length) (h2 : vs'.length = ks'.length) (h3 : hasOwnL vs' = false)
    (h4 : ∀ (w' : World), Fzn w w' g.X g.X → ∀ (i : Nat) (k : PV), ks'[i]? = some k → RepP w' g.X k (es'.getD i default).key)
    (h5 : ∀ (w' : World), (∀ (v : V) (y : Value), hasOwn v = false → RepV g w v y → RepV g w' v y) → ∀ (i : Nat) (v : V), vs'[i]? = some v → RepV g w' v (es'.getD i default).val) :
    Post E K o Cx g w a.tmps fr m ⟨.nov, ⟨m.lm, m.h.set b (.map ks' vs')⟩, fr⟩ undef g { w with heap := w.heap.setIfInBounds R (.map es' ck') } := by
  obtain ⟨hX, _⟩ := h.hp.blk b _ R hb hR
  have ht := Turn.map hh es' ck'
  have st : Stp (Dk E K o Cx g w m) g w g { w with heap := w.heap.setIfInBounds R (.map es' ck') } := ht.stp hX (Dk_blk h hb hR hro hw)
  obtain ⟨r1, r2⟩ := (RelV.of_rel h).setBlk (.map ks' vs') hb hR (shp_set_map hb) ht (u := .nov) (z := undef) (fun st => ⟨es', ck', by
      show (w.heap.setIfInBounds R _)[R]? = _
      rw [Array.getElem?_setIfInBounds_self_of_lt (lt_size hh)], h1, h2, h3, h4 _ st.fz,
      h5 _ fun v y hv hr => hr.mono st.fz st.sh st.ge fun B hB => rfl⟩) .nov (fun B => by simp [bcnt])
  exact ⟨r1, st, .refl fr, fun _ _ => rfl⟩

theorem hasOwnL_set {vs : List V} {i : Nat} {v : V} (h : hasOwnL vs = false) (hv : hasOwn v = false) : hasOwnL (vs.set i v) = false := by
  induction vs generalizing i with
  | nil => simp [hasOwnL]
  | cons x xs ih =>
    simp only [hasOwnL, Bool.or_eq_false_iff] at h
    cases i with
    | zero => simp [hasOwnL, hv, h.2]
    | succ i => simp [hasOwnL, h.1, ih h.2]

theorem hasOwnL_append {vs us : List V} (h : hasOwnL vs = false) (hv : hasOwnL us = false) : hasOwnL (vs ++ us) = false := by
  induction vs with
  | nil => simpa using hv
  | cons x xs ih =>
    simp only [hasOwnL, Bool.or_eq_false_iff] at h
    simp only [List.cons_append, hasOwnL, h.1, ih h.2, Bool.or_self]

theorem hasOwnL_erase {vs : List V} {i : Nat} (h : hasOwnL vs = false) : hasOwnL (vs.eraseIdx i) = false := by
  induction vs generalizing i with
  | nil => simp [hasOwnL]
  | cons x xs ih =>
    simp only [hasOwnL, Bool.or_eq_false_iff] at h
    cases i with
    | zero => simpa using h.2
    | succ i => simp [hasOwnL, h.1, ih h.2]

theorem ok_mapUpdate (hQ : TabOk P E.Q) (h : Rel Cx g w a.tmps fr m) (nf : Bool) {t : TypeId} {c k x : Operand} (ho : o.op = .mapUpdate t c k x) {h' : Heap} (hv : mapPut E.Q K m.h t (argOf nf fr c) (argOf nf fr k) (argOf nf fr x) = some h') :
    OpOk P E K o Cx g w a fr m ⟨.nov, ⟨m.lm, h'⟩, fr⟩ := by
  have hc := evA h nf c
  have hk := evA h nf k
  have hx := evA h nf x
  have hw : writesMem E o = true := by simp [writesMem, ho]
  unfold mapPut at hv
  split at hv
  · rename_i kt e b hu eb
    split at hv
    · rename_i ks vs hb
      simp only [Option.bind_eq_some_iff] at hv
      obtain ⟨kk, hkk, r, hr, hv⟩ := hv
      obtain ⟨ek, hfl, hfit⟩ := keyOf_some hkk
      rw [ek] at hk
      rw [eb] at hc
      obtain ⟨R, es, ck, hy, hρ, hh, h1, h2, h3, h4, h5⟩ := mp_inv h hc hb
      obtain ⟨dk, hdk⟩ := keyFits_und hfit
      have hck := checkKey_rel hQ hk hfit false
      have hfk := run_findKey hQ hdk hk (es := es.toList) (by simpa using h1) (fun j x hj => by rw [getD_toList]; exact h4 j x hj) hr
      have hlen : es.size = ks.length := h1
      split at hv
      · rename_i hcnd
        simp only [Bool.and_eq_true, decide_eq_true_eq] at hcnd
        split at hv
        · rename_i i
          split at hv
          · rename_i hany
            simp only [Option.some.injEq] at hv
            subst hv
            have hi : i < ks.length := by have := (findK_lt ks 0 i hr).2; omega
            have hki : ks[i]? = some kk := by
              rw [List.getElem?_eq_getElem hi] at hany ⊢
              simp only [Option.any_some] at hany
              rw [flat_eq hfl hany]
            have hold : (es.getD i default).key = a.eval k := flat_val hfl (h4 i kk hki) hk.p_inv
            intro next Qe hn
            unfold Oper.wp
            have hes : es[i]? = some es[i] := by simp [show i < es.size from by omega]
            have hgd : es.getD i default = es[i] := by simp [Array.getD_eq_getD_getElem?, hes]
            rw [hgd] at hold
            have hrun : (execOp a.eval o).run P w = .ok .skip { w with heap := w.heap.setIfInBounds R (.map (es.modify i fun e => { e with key := a.eval k, val := a.eval x }) ck) } := by
              simp only [execOp, ho, Instr.mapUpdate, Sem.run_bind, run_und hQ hu, Result.andThen_ok, hy, Go.run_getObj_map (P := P) w _ _ _ hh, hck, hfk, hitOf, Option.map_some, hes, Option.getD_some, hold, Instr.keyThatStays, sameBits_flat hfl hk.p_inv, if_true, Sem.run_pure, Go.MapKept.run_setObj_map _ hh]
            rw [hrun]
            refine hn g _ undef (h.mapTurn hb hρ hh hcnd.1 hw (by simp; omega) (by simp; omega) (hasOwnL_set h3 (hasOwn_cp _)) (fun w' fz j k' hj => ?_) fun w' up j v hj => ?_)
            · have hjl : j < es.size := by have := lt_of_get hj; omega
              by_cases e : i = j
              · subst e
                rw [hki] at hj
                simp only [Option.some.injEq] at hj
                subst hj
                have : ((es.modify i fun e => { e with key := a.eval k, val := a.eval x }).getD i default).key = a.eval k := by
                  simp [Array.getD_eq_getD_getElem?, Array.getElem_modify, hjl]
                rw [this]
                exact hk.p_inv.mono fz
              · have : (es.modify i fun e => { e with key := a.eval k, val := a.eval x }).getD j default = es.getD j default := by
                  simp [Array.getD_eq_getD_getElem?, Array.getElem?_modify, e]
                rw [this]
                exact (h4 j k' hj).mono fz
            · rw [List.getElem?_set] at hj
              split at hj
              · rename_i e
                subst e
                split at hj
                · simp only [Option.some.injEq] at hj
                  subst hj
                  have : ((es.modify i fun e => { e with key := a.eval k, val := a.eval x }).getD i default).val = a.eval x := by
                    simp [Array.getD_eq_getD_getElem?, Array.getElem_modify, show i < es.size from by omega]
                  rw [this]
                  exact up _ _ (hasOwn_cp _) hx.cp
                · cases hj
              · rename_i e
                have : (es.modify i fun e => { e with key := a.eval k, val := a.eval x }).getD j default = es.getD j default := by
                  simp [Array.getD_eq_getD_getElem?, Array.getElem?_modify, e]
                rw [this]
                exact up _ _ (hasOwnL_get vs j v h3 hj) (h5 j v hj)
          · cases hv
        · simp only [Option.some.injEq] at hv
          subst hv
          intro next Qe hn
          unfold Oper.wp
          have hrun : (execOp a.eval o).run P w = .ok .skip { w with heap := w.heap.setIfInBounds R (.map (es.push { key := a.eval k, val := a.eval x, born := ck }) (ck + 1)) } := by
            simp only [execOp, ho, Instr.mapUpdate, Sem.run_bind, run_und hQ hu, Result.andThen_ok, hy, Go.run_getObj_map (P := P) w _ _ _ hh, hck, hfk, hitOf, Option.map_none, Sem.run_pure, Go.MapKept.run_setObj_map _ hh]
          rw [hrun]
          refine hn g _ undef (h.mapTurn hb hρ hh hcnd.1 hw (by simp; omega) (by simp; omega) (hasOwnL_append h3 (by simp [hasOwnL, hasOwn_cp])) (fun w' fz j k' hj => ?_) fun w' up j v hj => ?_)
          · rw [List.getElem?_append] at hj
            split at hj
            · rename_i hlt
              have : (es.push { key := a.eval k, val := a.eval x, born := ck }).getD j default = es.getD j default := by
                simp [Array.getD_eq_getD_getElem?, Array.getElem?_push, show j ≠ es.size from by omega]
              rw [this]
              exact (h4 j k' hj).mono fz
            · rename_i hge
              have hj0 : j = es.size := by have := lt_of_get hj; simp at this; omega
              rw [show j - ks.length = 0 from by omega] at hj
              simp at hj
              subst hj
              have : (es.push { key := a.eval k, val := a.eval x, born := ck }).getD j default = { key := a.eval k, val := a.eval x, born := ck } := by
                simp [Array.getD_eq_getD_getElem?, hj0]
              rw [this]
              exact hk.p_inv.mono fz
          · rw [List.getElem?_append] at hj
            split at hj
            · rename_i hlt
              have : (es.push { key := a.eval k, val := a.eval x, born := ck }).getD j default = es.getD j default := by
                simp [Array.getD_eq_getD_getElem?, Array.getElem?_push, show j ≠ es.size from by omega]
              rw [this]
              exact up _ _ (hasOwnL_get vs j v h3 hj) (h5 j v hj)
            · rename_i hge
              have hj0 : j = es.size := by have := lt_of_get hj; simp at this; omega
              rw [show j - vs.length = 0 from by omega] at hj
              simp at hj
              subst hj
              have : (es.push { key := a.eval k, val := a.eval x, born := ck }).getD j default = { key := a.eval k, val := a.eval x, born := ck } := by
                simp [Array.getD_eq_getD_getElem?, hj0]
              rw [this]
              exact up _ _ (hasOwn_cp _) hx.cp
      · cases hv
    · cases hv
  · cases hv

end
end Go.Wn
