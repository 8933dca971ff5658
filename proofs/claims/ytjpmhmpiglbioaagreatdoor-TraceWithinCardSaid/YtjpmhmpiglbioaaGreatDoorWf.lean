/- Part of the proof: an evaluator of the model's code over pure trees, and what it computes. No condition of its own. -/
import Derived.Test.YtjpmhmpiglbioaaGreatDoorWe
import Derived.Laws.Sem
set_option linter.unusedSimpArgs false
set_option linter.unusedVariables false
namespace Go.Wn
open Go

theorem mapO_spec {α β : Type} {F : α → Option β} : ∀ (l : List α) (r : List β), mapO F l = some r → r.length = l.length ∧ ∀ (j : Nat) (x : α), l[j]? = some x → ∃ y, r[j]? = some y ∧ F x = some y
  | [], r, h => by simp only [mapO, Option.some.injEq] at h; subst h; exact ⟨rfl, fun j x hj => by simp at hj⟩
  | x :: xs, r, h => by
    simp only [mapO] at h
    split at h
    · rename_i y ys hy hys
      simp only [Option.some.injEq] at h; subst h
      obtain ⟨h1, h2⟩ := mapO_spec xs ys hys
      refine ⟨by simp [h1], fun j z hj => ?_⟩
      cases j with
      | zero => simp at hj; subst hj; exact ⟨y, by simp, hy⟩
      | succ j =>
        obtain ⟨u, p1, p2⟩ := h2 j z (by simpa using hj)
        exact ⟨u, by simpa using p1, p2⟩
    · cases h

/-- how often block B is at the head of what becomes a list of one's own -/
def hd (ρ : List (Option Nat)) (B : Nat) (l : List Nat) : Nat := (l.map fun b => if ρ.getD b none = some B then 1 else 0).sum

theorem hd_append (ρ : List (Option Nat)) (B : Nat) (l r : List Nat) : hd ρ B (l ++ r) = hd ρ B l + hd ρ B r := by simp [hd]

theorem sum_nodup {n m : Nat} : ∀ (l : List Nat) (f : Nat → Nat), l.Nodup → (∀ b ∈ l, n ≤ b ∧ b < m) → n ≤ m → Sm n f + (l.map f).sum ≤ Sm m f
  | [], f, _, _, hnm => by
    have := Sm_mono_len (f := f) hnm
    simpa using this
  | b :: l, f, hnd, hl, hnm => by
    rw [List.nodup_cons] at hnd
    obtain ⟨h1, h2⟩ := hl b (by simp)
    have ih := sum_nodup (n := n) (m := m) l (fun i => if i = b then 0 else f i) hnd.2 (fun c hc => hl c (by simp [hc])) hnm
    have e1 : Sm n (fun i => if i = b then 0 else f i) = Sm n f := Sm_congr fun i hi => by rw [if_neg (by omega)]
    have e2 : (l.map fun i => if i = b then 0 else f i) = l.map f := List.map_congr_left fun c hc => by
      have hne : c ≠ b := by rintro rfl; exact hnd.1 hc
      simp only [if_neg hne]
    have e3 := Sm_upd (n := m) (d := b) (f := f) (f' := fun i => if i = b then 0 else f i) h2 (fun i hi => by simp only [if_neg hi])
    simp only [if_true] at e3
    rw [e1, e2] at ih
    simp only [List.map_cons, List.sum_cons]
    omega

theorem mapO_pm {F : V → Option V} {Hd : V → List Nat} {ρ : List (Option Nat)} : ∀ (vs vs' : List V) (ys : Array Value) (k : Nat), mapO F vs = some vs' →
    (∀ (j : Nat) (v v' : V), vs[j]? = some v → F v = some v' → ∀ B, pm B v' (ys.getD (k + j) undef) ≤ pm B v (ys.getD (k + j) undef) + hd ρ B (Hd v)) → ∀ B, pmL B vs' ys k ≤ pmL B vs ys k + hd ρ B (vs.flatMap Hd)
  | [], r, ys, k, h, _, B => by simp only [mapO, Option.some.injEq] at h; subst h; simp [pmL]
  | x :: xs, r, ys, k, h, hp, B => by
    simp only [mapO] at h
    split at h
    · rename_i y zs hy hzs
      simp only [Option.some.injEq] at h; subst h
      have h1 := hp 0 x y (by simp) hy B
      have h2 := mapO_pm xs zs ys (k + 1) hzs (fun j v v' hj hv B => by
        have := hp (j + 1) v v' (by simpa using hj) hv B
        rw [show k + (j + 1) = k + 1 + j from by omega] at this
        exact this) B
      simp only [pmL, List.flatMap_cons, hd_append]
      simp only [Nat.add_zero] at h1
      omega
    · cases h

section
variable {g : Gh} {w : World} {h : Heap} {n : Nat} {X' : Nat → Nat}

/-- an array that becomes a list of one's own -/
theorem fz_rows (hr : HeapRel g w h) (hX : FzX g h n X') (hf : Fzn w w g.X X') {d b sz : Nat} {rs : List (List V)} {R : Nat} {ys : Array Value} {T : TypeId} {es : List PV} (hn : n ≤ b) (hb : h[b]? = some (.arr sz rs)) (hR : g.ρ[b]? = some (some R))
    (hblk : w.heap[R]? = some (.cells ys T (0, 0))) (hes : fzR h n d rs = some es) :
    es.length = rs.length ∧ (∀ x ∈ es, x.cells.length = sz) ∧ ∀ cap, rs.length ≤ cap → RepP w X' (.lst es) (.slice (some ⟨R, 0, none⟩) es.length cap) := by
  obtain ⟨hX0, ys2, T2, cap2, hblk2, hs2, hcap2, hz2, hc2⟩ := hr.blk b _ R hb hR
  rw [hblk] at hblk2
  simp only [Option.some.injEq, Obj.cells.injEq] at hblk2
  obtain ⟨rfl, rfl, _⟩ := hblk2
  obtain ⟨l1, l2⟩ := fzR_spec h n d _ _ hes
  have hrow : ∀ (i : Nat) (x : PV), es[i]? = some x → ∃ (r : List V) (ps : List PV) (e' : Nat), rs[i]? = some r ∧ x = rowPV ps ∧ fzL h n e' r = some ps ∧ ps.all PV.cellOk = true := fun i x hx => by
    have hi := lt_of_get hx
    have hrr : rs[i]? = some rs[i] := List.getElem?_eq_getElem (by omega)
    obtain ⟨e', ps, q1, q2, q3, q4⟩ := l2 i rs[i] hrr
    rw [hx] at q2
    simp only [Option.some.injEq] at q2
    exact ⟨_, ps, e', hrr, q2, q3, q4⟩
  have hcells : ∀ (i : Nat) (x : PV), es[i]? = some x → x.cells.length = sz := fun i x hx => by
    obtain ⟨r, ps, e', q2, rfl, q3, q4⟩ := hrow i x hx
    rw [rowPV_cells q4, (fzL_spec h n e' r ps q3).1]
    exact (hc2 _ r q2).1
  refine ⟨l1, fun x hx => ?_, fun cap hcp => ?_⟩
  · obtain ⟨i, hi⟩ := List.getElem?_of_mem hx
    exact hcells i x hi
  · refine .lst es _ cap sz R 0 (fun i j => ys.getD (i * sz + j) undef) (.inr rfl) hcells (by omega) (fun i x j c hi hj => ?_) (fun i x j c hi hj => ?_)
    · have hil := lt_of_get hi
      have hjl := lt_of_get hj
      rw [hcells i x hi] at hjl
      have hlt1 : i * sz + j < rs.length * sz := ix_lt (by omega) hjl
      have hle : rs.length * sz ≤ cap2 * sz := Nat.mul_le_mul_right _ hcap2
      rw [Nat.zero_add]
      refine ⟨by rw [hX.drop b _ R hn hb hR]; exact hlt1, ?_⟩
      simp only [World.cell?, hblk, Option.isSome_none, Bool.false_eq_true, if_false]
      have : i * sz + j < ys.size := by omega
      rw [Array.getElem?_eq_getElem this]
      simp [Array.getD_eq_getD_getElem?, this]
    · obtain ⟨r, ps, e', q2, rfl, q3, q4⟩ := hrow i x hi
      rw [rowPV_cells q4] at hj
      obtain ⟨m1, m2⟩ := fzL_spec h n e' r ps q3
      have hjl := lt_of_get hj
      obtain ⟨e2, p', r1, r2, r3⟩ := m2 j r[j] (by rw [List.getElem?_eq_getElem (by omega)])
      rw [hj] at r2
      simp only [Option.some.injEq] at r2
      subst r2
      exact fz_rel hr hX hf e2 _ _ _ ((hc2 i r q2).2 j r[j] (by rw [List.getElem?_eq_getElem (by omega)])) r3

structure FzP (g : Gh) (w : World) (h : Heap) (n : Nat) (X' : Nat → Nat) (hs : List Nat) (v v' : V) (y : Value) : Prop where
  rep : ∀ g' : Gh, g'.X = X' → RepV g' w v' y
  pm : ∀ B, pm B v' y ≤ pm B v y + hd g.ρ B hs
  lf : lf v' = true
  hs : ∀ b ∈ hs, n ≤ b ∧ b < h.length

theorem fzPure_rel (hr : HeapRel g w h) (hX : FzX g h n X') (hf : Fzn w w g.X X') {hs : List Nat} (hs0 : hs = []) {v v' : V} {y : Value} (hv : RepV g w v y) (he : fzPure h n v = some v') : FzP g w h n X' hs v v' y := by
  subst hs0
  unfold fzPure at he
  simp only [Option.map_eq_some_iff] at he
  obtain ⟨p, hp, rfl⟩ := he
  exact ⟨fun g' e => .p p y (by rw [e]; exact fz_rel hr hX hf _ _ _ _ hv hp), fun B => by rw [pm_p]; omega, rfl, fun b hb => by cases hb⟩

theorem fzCell_rel (hr : HeapRel g w h) (hX : FzX g h n X') (hf : Fzn w w g.X X') {v v' : V} {y : Value} (hv : RepV g w v y) (ho : ∀ B, 0 < pm B v y → X' B = g.X B) (he : fzCell h n v = some v') : FzP g w h n X' (cellHeads v) v v' y := by
  unfold fzCell at he
  split at he
  · rename_i es
    simp only [Option.some.injEq] at he; subst he
    refine ⟨fun g' e => ?_, fun B => by simp [hd], rfl, fun b hb => by cases hb⟩
    cases hv with
    | own0 a => exact .own0 a
    | own es cap sz B hne hp hz hoa =>
      have hXB := ho B (by simp [Wn.pm, hne])
      exact .own es cap sz B hne (by rw [e]; exact hp.mono hf) hz ⟨by rw [e, hXB]; exact hoa.end_, hoa.blk, hoa.cap⟩
  · rename_i b len ver
    split at he
    · rename_i hn
      split at he
      · rename_i sz' rs hx
        have hbl := lt_of_get hx
        split at he
        · rename_i hc
          simp only [Option.map_eq_some_iff] at he
          obtain ⟨es, hes, rfl⟩ := he
          cases hv with
          | sl b off len ver sz k ad cap hl hs hv hB =>
            have hsh : g.sh b = some (sz', rs.length) := by rw [hr.sh]; simp [shp, hx]
            rw [hs] at hsh
            simp only [Option.some.injEq, Prod.mk.injEq] at hsh
            obtain ⟨rfl, rfl⟩ := hsh
            obtain ⟨B, ys, T, hb, had, hblk, hsize⟩ := hB hc.1.symm
            obtain ⟨q1, q2, q3⟩ := fz_rows hr hX hf hn hx hb hblk hes
            have hlen : len = es.length := by omega
            have had' : ad = ⟨B, 0, none⟩ := by
              rcases had with h0 | h0
              · omega
              · rw [h0, Nat.zero_mul]
            subst had'
            have hne : es ≠ [] := fun e => by rw [e] at hlen; simp at hlen; omega
            rw [hlen]
            refine ⟨fun g' e => .own es cap sz B hne (by rw [e]; exact q3 cap (by omega)) q2 ⟨by rw [e, hX.drop b _ B hn hx hb]; simp only [blkSz]; rw [q1], ⟨ys, T, hblk, by rw [← hsize, Nat.zero_add]⟩, by omega⟩, fun B' => ?_, rfl, fun c hc' => ?_⟩
            · have e0 : g.ρ.getD b none = some B := by simp [List.getD, hb]
              simp only [Wn.pm, cellHeads, hd, List.map_cons, List.map_nil, List.sum_cons, List.sum_nil, e0]
              by_cases e : B = B'
              · subst e; simp; split <;> omega
              · simp [e]
            · simp only [cellHeads, List.mem_singleton] at hc'
              subst hc'; exact ⟨hn, hbl⟩
        · simp only [Option.map_eq_some_iff] at he
          obtain ⟨p, hp, rfl⟩ := he
          refine ⟨fun g' e => .p p y (by rw [e]; exact fz_rel hr hX hf _ _ _ _ hv hp), fun B => by rw [pm_p]; omega, rfl, fun c hc' => ?_⟩
          simp only [cellHeads, List.mem_singleton] at hc'
          subst hc'; exact ⟨hn, hbl⟩
      · cases he
    · cases he
  · rename_i hno hns
    simp only [Option.map_eq_some_iff] at he
    obtain ⟨p, hp, rfl⟩ := he
    refine ⟨fun g' e => .p p y (by rw [e]; exact fz_rel hr hX hf _ _ _ _ hv hp), fun B => by rw [pm_p]; omega, rfl, fun c hc' => ?_⟩
    cases v with
    | sl b off len ver =>
      simp only [cellHeads, List.mem_singleton] at hc'
      subst hc'
      cases hv with
      | sl b off len ver sz k ad cap hl hs hv hB =>
        have hd' : fzDepth = 99999 + 1 := rfl
        rw [hd'] at hp
        simp only [fz] at hp
        split at hp
        · rename_i hn
          exact ⟨hn, by rw [hr.sh] at hs; exact shp_lt hs⟩
        · cases hp
    | _ => simp [cellHeads] at hc'

theorem lf_mkAgg {cs : List V} (h : lfL cs = true) : lf (mkAgg cs) = true := by
  unfold mkAgg
  split
  · rfl
  · exact h

theorem fzPart_rel (hr : HeapRel g w h) (hX : FzX g h n X') (hf : Fzn w w g.X X') {v v' : V} {y : Value} (hv : RepV g w v y) (ho : ∀ B, 0 < pm B v y → X' B = g.X B) (he : fzPart h n v = some v') : FzP g w h n X' (partHeads v) v v' y := by
  unfold fzPart at he
  split at he
  · rename_i cs
    simp only [Option.map_eq_some_iff] at he
    obtain ⟨cs', hcs, rfl⟩ := he
    cases hv with
    | agg _ ys hl hc =>
      obtain ⟨l1, l2⟩ := mapO_spec cs cs' hcs
      have hp : ∀ (j : Nat) (c c' : V), cs[j]? = some c → fzCell h n c = some c' → FzP g w h n X' (cellHeads c) c c' (ys.getD j undef) := fun j c c' hj hc' =>
        fzCell_rel hr hX hf (hc j c hj) (fun B hB => ho B (by have := pmL_get0 B (ys := ys) hj; simp only [pm]; omega)) hc'
      refine ⟨fun g' e => RepV.mkAgg (.agg cs' ys (by omega) fun j c' hj => ?_), fun B => ?_, lf_mkAgg ?_, fun b hb => ?_⟩
      · have hjl := lt_of_get hj
        obtain ⟨u, q1, q2⟩ := l2 j cs[j] (by rw [List.getElem?_eq_getElem (by omega)])
        rw [hj] at q1
        simp only [Option.some.injEq] at q1
        subst q1
        exact (hp j _ _ (by rw [List.getElem?_eq_getElem (by omega)]) q2).rep g' e
      · rw [pm_mkAgg]
        simp only [pm, partHeads]
        exact mapO_pm cs cs' ys 0 hcs (fun j v v' hj hv' B => by rw [Nat.zero_add]; exact (hp j v v' hj hv').pm B) B
      · rw [lfL_all, List.all_eq_true]
        intro x hx
        obtain ⟨j, hj⟩ := List.getElem?_of_mem hx
        have hjl := lt_of_get hj
        obtain ⟨u, q1, q2⟩ := l2 j cs[j] (by rw [List.getElem?_eq_getElem (by omega)])
        rw [hj] at q1
        simp only [Option.some.injEq] at q1
        subst q1
        exact (hp j _ _ (by rw [List.getElem?_eq_getElem (by omega)]) q2).lf
      · simp only [partHeads, List.mem_flatMap] at hb
        obtain ⟨c, hc1, hc2⟩ := hb
        obtain ⟨j, hj⟩ := List.getElem?_of_mem hc1
        obtain ⟨u, q1, q2⟩ := l2 j c hj
        exact (hp j _ _ hj q2).hs b hc2
  · rename_i hna
    have : partHeads v = cellHeads v := by
      cases v <;> first | rfl | exact absurd rfl (hna _)
    rw [this]
    exact fzCell_rel hr hX hf hv ho he

theorem fzList_rel {F : V → Option V} {Hd : V → List Nat} {vs vs' : List V} {ys : Array Value} (hl : ys.size = vs.length) (hm : mapO F vs = some vs')
    (hp : ∀ (j : Nat) (c c' : V), vs[j]? = some c → F c = some c' → FzP g w h n X' (Hd c) c c' (ys.getD j undef)) : FzP g w h n X' (vs.flatMap Hd) (.tup vs) (.tup vs') (.tuple ys) := by
  obtain ⟨l1, l2⟩ := mapO_spec vs vs' hm
  have get : ∀ (j : Nat) (c' : V), vs'[j]? = some c' → ∃ c, vs[j]? = some c ∧ F c = some c' := fun j c' hj => by
    have hjl := lt_of_get hj
    obtain ⟨u, q1, q2⟩ := l2 j vs[j] (by rw [List.getElem?_eq_getElem (by omega)])
    rw [hj] at q1
    simp only [Option.some.injEq] at q1
    subst q1
    exact ⟨_, by rw [List.getElem?_eq_getElem (by omega)], q2⟩
  refine ⟨fun g' e => .tup vs' ys (by omega) fun j c' hj => ?_, fun B => ?_, ?_, fun b hb => ?_⟩
  · obtain ⟨c, q1, q2⟩ := get j c' hj
    exact (hp j _ _ q1 q2).rep g' e
  · simp only [pm]
    exact mapO_pm vs vs' ys 0 hm (fun j v v' hj hv' B => by rw [Nat.zero_add]; exact (hp j v v' hj hv').pm B) B
  · simp only [lf]
    rw [lfL_all, List.all_eq_true]
    intro x hx
    obtain ⟨j, hj⟩ := List.getElem?_of_mem hx
    obtain ⟨c, q1, q2⟩ := get j x hj
    exact (hp j _ _ q1 q2).lf
  · simp only [List.mem_flatMap] at hb
    obtain ⟨c, hc1, hc2⟩ := hb
    obtain ⟨j, hj⟩ := List.getElem?_of_mem hc1
    obtain ⟨u, q1, q2⟩ := l2 j c hj
    exact (hp j _ _ hj q2).hs b hc2

theorem fzOut_part (hr : HeapRel g w h) (hX : FzX g h n X') (hf : Fzn w w g.X X') {pu : Bool} {v v' : V} {y : Value} (hv : RepV g w v y) (ho : ∀ B, 0 < pm B v y → X' B = g.X B) (he : fzOut pu h n v = some v') :
    ∃ hs : List Nat, hs.Nodup ∧ FzP g w h n X' hs v v' y := by
  unfold fzOut at he
  split at he
  · refine ⟨[], List.nodup_nil, ?_⟩
    split at he
    · rename_i vs
      simp only [Option.map_eq_some_iff] at he
      obtain ⟨vs', hvs, rfl⟩ := he
      cases hv with
      | tup _ ys hl hc =>
        have := fzList_rel (g := g) (w := w) (h := h) (n := n) (X' := X') (Hd := fun _ => []) hl hvs fun j c c' hj hc' => fzPure_rel hr hX hf rfl (hc j c hj) hc'
        have e : vs.flatMap (fun _ => ([] : List Nat)) = [] := by simp
        rw [e] at this
        exact this
    · exact fzPure_rel hr hX hf rfl hv he
  · split at he
    · rename_i hnd
      refine ⟨_, hnd, ?_⟩
      split at he
      · rename_i vs
        simp only [Option.map_eq_some_iff] at he
        obtain ⟨vs', hvs, rfl⟩ := he
        cases hv with
        | tup _ ys hl hc =>
          exact fzList_rel hl hvs fun j c c' hj hc' => fzPart_rel hr hX hf (hc j c hj) (fun B hB => ho B (by have := pmL_get0 B (ys := ys) hj; simp only [pm]; omega)) hc'
      · rename_i hnt
        have : outHeads v = partHeads v := by
          cases v <;> first | rfl | exact absurd rfl (hnt _)
        rw [this]
        exact fzPart_rel hr hX hf hv ho he
    · cases he

end

/-- what a call made is gone, but for what it hands back, which is frozen -/
theorem freeze {Cx : Nat → Nat} {g : Gh} {w : World} {h : Heap} {n : Nat} {v v' : V} {y : Value} {pu : Bool} (hr : RelV Cx g w #[] fr0 ⟨[], h⟩ v y) (hn : n ≤ h.length) (hlf : ∀ x ∈ h, blkLf x = true) (hrb : ∀ (b : Nat) (x : Blk), b < n → h[b]? = some x → blkRb n x = true)
    (he : fzOut pu h n v = some v') : lf v' = true ∧ ∃ g', RelV Cx g' w #[] fr0 ⟨[], h.take n⟩ v' y ∧ g'.ρ = g.ρ.take n ∧
      ∀ (D : Nat → Nat) (g0 : Gh) (w0 : World), Stp D g0 w0 g w → (∀ B, D B ≤ Cx B + hcnt B w (h.take n) g.ρ) → g0.ρ.length ≤ n → g0.lam = [] → (∀ b z, g0.sh b = some z → b < n) → Stp D g0 w0 g' w := by
  have hone : ∀ B, hcnt B w h g.ρ + pm B v y + Cx B ≤ 1 := fun B => by
    have := hr.one B
    have e1 : fcnt B fr0 #[] = 0 := rfl
    have e2 : lcnt B w [] g.lam = 0 := rfl
    simp only at this
    omega
  obtain ⟨X', hX⟩ := fzX_ex g w h n fun B => by have := hone B; omega
  have hdrop : ∀ (b : Nat) (x : Blk) (R : Nat), h[b]? = some x → g.ρ[b]? = some (some R) → 1 ≤ hcnt R w h g.ρ := fun b x R h1 h2 => by
    have := Sm_get (n := h.length) (f := hterm R w h g.ρ) (lt_of_get h1)
    rw [hterm_some h1 h2] at this
    simp only [if_true] at this
    unfold hcnt
    omega
  have hcutle : ∀ (b : Nat) (x : Blk) (R : Nat), n ≤ b → h[b]? = some x → g.ρ[b]? = some (some R) → hcnt R w (h.take n) g.ρ + 1 ≤ hcnt R w h g.ρ := fun b x R h0 h1 h2 => by
    have h3 := Sm_split (n := h.length) (k := n) (b := b) (f := hterm R w h g.ρ) h0 (lt_of_get h1)
    rw [hterm_some h1 h2] at h3
    simp only [if_true] at h3
    have h4 : hcnt R w (h.take n) g.ρ = Sm n (hterm R w h g.ρ) := by
      rw [hcnt_take]
      congr 1; omega
    rw [h4]
    unfold hcnt
    omega
  have hf : Fzn w w g.X X' := ⟨fun B o z h1 h2 => by
    by_cases hx : ∃ b x, n ≤ b ∧ h[b]? = some x ∧ g.ρ[b]? = some (some B)
    · obtain ⟨b, x, q1, q2, q3⟩ := hx
      have := (hr.hp.blk b x B q2 q3).1
      omega
    · rw [hX.keep B fun b x q1 q2 q3 => hx ⟨b, x, q1, q2, q3⟩]
      exact ⟨h1, h2⟩, fun R es ck h1 h2 => by
    by_cases hx : ∃ b x, n ≤ b ∧ h[b]? = some x ∧ g.ρ[b]? = some (some R)
    · obtain ⟨b, x, q1, q2, q3⟩ := hx
      have := (hr.hp.blk b x R q2 q3).1
      omega
    · rw [hX.keep R fun b x q1 q2 q3 => hx ⟨b, x, q1, q2, q3⟩]
      exact ⟨h1, h2⟩⟩
  have ho : ∀ B, 0 < pm B v y → X' B = g.X B := fun B hB => hX.keep B fun b x q1 q2 q3 => by
    have := hdrop b x B q2 q3
    have := hone B
    omega
  have hok : ∀ B, 0 < hcnt B w (h.take n) g.ρ + Cx B → X' B = g.X B := fun B hB => hX.keep B fun b x q1 q2 q3 => by
    have := hcutle b x B q1 q2 q3
    have := hone B
    omega
  obtain ⟨hs, hnd, hp⟩ := fzOut_part hr.hp hX hf hr.val ho he
  have hlam : g.lam = [] := List.length_eq_zero_iff.1 hr.lm.len
  let g' : Gh := { g.cut 0 n h with X := X' }
  have hcut := hr.hp.cut (l := 0) hn hlf hrb
  have hρeq : ∀ B, hcnt B w (h.take n) (g.ρ.take n) = hcnt B w (h.take n) g.ρ := fun B => by
    unfold hcnt
    refine Sm_congr fun b hb => ?_
    have hb' : b < n := by simp at hb; omega
    unfold hterm
    simp only [List.getD]
    rw [List.getElem?_take, if_pos hb']
  have hge : GhLe (g.cut 0 n h) g' := ⟨fun _ _ e => e, fun _ _ e1 e2 => ⟨e1, e2⟩, fun _ _ k e => ⟨k, e, Nat.le_refl _, fun _ _ e => e⟩, fun _ e => ⟨e, rfl⟩⟩
  have hhp : HeapRel g' w (h.take n) := hcut.mono (g' := g') hf (Shp.refl w) hge rfl rfl (fun B hB => by
    show X' B = 0
    rw [hX.keep B fun b x q1 q2 q3 => by
      have := (hr.hp.blk b x B q2 q3).2.lt
      omega]
    exact hr.hp.new B hB) fun B hB => ⟨rfl, hok B (by
      have : hcnt B w (h.take n) (g.ρ.take n) = hcnt B w (h.take n) g.ρ := hρeq B
      have hB' : 0 < hcnt B w (h.take n) (g.ρ.take n) := hB
      omega)⟩
  refine ⟨hp.lf, g', ⟨hhp, ⟨by simp [g', Gh.cut], fun b cs R hx => by simp at hx⟩, frRel0 _ _, fun B => ?_, hr.cnew, hp.rep g' rfl⟩, rfl, fun D g0 w0 st hD hρ0 hl0 hs0 => ?_⟩
  · have e1 : fcnt B fr0 #[] = 0 := rfl
    have e2 : lcnt B w [] g'.lam = 0 := rfl
    show fcnt B fr0 #[] + lcnt B w [] g'.lam + hcnt B w (h.take n) (g.ρ.take n) + pm B v' y + Cx B ≤ 1
    rw [e1, e2, hρeq]
    have h1 := hp.pm B
    have h2 := hone B
    have h3 : hcnt B w (h.take n) g.ρ = Sm n (hterm B w h g.ρ) := by
      rw [hcnt_take]
      congr 1; omega
    have h4 := sum_nodup (n := n) (m := h.length) hs (hterm B w h g.ρ) hnd hp.hs hn
    have h5 : hd g.ρ B hs ≤ (hs.map (hterm B w h g.ρ)).sum := by
      unfold hd
      have key : ∀ l : List Nat, (l.map fun b => if g.ρ.getD b none = some B then 1 else 0).sum ≤ (l.map (hterm B w h g.ρ)).sum := by
        intro l
        induction l with
        | nil => simp
        | cons b l ih =>
          simp only [List.map_cons, List.sum_cons]
          refine Nat.add_le_add ?_ ih
          unfold hterm
          cases e : g.ρ.getD b none with
          | none => simp
          | some R =>
            simp only [Option.some.injEq]
            split <;> omega
      exact key hs
    rw [h3]
    have h6 : hcnt B w h g.ρ = Sm h.length (hterm B w h g.ρ) := rfl
    omega
  · have hc := st.ge.cut (l := 0) (n := n) (hp := h) hr.hp.sh hρ0 (by rw [hl0]; simp) hs0
    exact { fz := st.fz.trans hf, sh := st.sh, kp := fun B hB => ⟨(st.kp B hB).1, (show X' B = g0.X B by rw [hok B (by have := hD B; omega)]; exact (st.kp B hB).2)⟩, ge := ⟨hc.lam, hc.pt, hc.sh, hc.un⟩, os := st.os, tape := st.tape, output := st.output, size := st.size }

end Go.Wn

namespace Go.Wn
open Go

theorem sum_nodup0 {m : Nat} : ∀ (l : List Nat) (f : Nat → Nat), l.Nodup → (∀ b ∈ l, m ≤ b → f b = 0) → (l.map f).sum ≤ Sm m f
  | [], f, _, _ => by simp
  | b :: l, f, hnd, hl => by
    rw [List.nodup_cons] at hnd
    have ih := sum_nodup0 (m := m) l (fun i => if i = b then 0 else f i) hnd.2 (fun c hc hm => by
      split
      · rfl
      · exact hl c (by simp [hc]) hm)
    have e2 : (l.map fun i => if i = b then 0 else f i) = l.map f := List.map_congr_left fun c hc => by
      have hne : c ≠ b := by rintro rfl; exact hnd.1 hc
      simp only [if_neg hne]
    rw [e2] at ih
    simp only [List.map_cons, List.sum_cons]
    rcases Nat.lt_or_ge b m with h | h
    · have e3 := Sm_upd (n := m) (d := b) (f := f) (f' := fun i => if i = b then 0 else f i) h (fun i hi => by simp only [if_neg hi])
      simp only [if_true] at e3
      omega
    · have h0 := hl b (by simp) h
      have e3 : Sm m (fun i => if i = b then 0 else f i) = Sm m f := Sm_congr fun i hi => by rw [if_neg (by omega)]
      omega

def resMod (tmps : Array Value) : ResultVar → Sem Value
  | .tmp t => pure (tmps.getD t undef)
  | .cell a t => do loadVar t (← asAddr (tmps.getD a undef))

section
variable {P : Program} {E : Env} {Cx : Nat → Nat} {g : Gh} {w : World} {tm : Array Value} {fr : Fr} {m : Mem}

def tms (fr : Fr) (tm : Array Value) (B : Nat) (l : List Nat) : Nat := (l.map fun t => pm B (rd fr t) (tm.getD t undef)).sum
def bxs (w : World) (m : Mem) (lam : List Nat) (B : Nat) (l : List Nat) : Nat := (l.map fun b => lterm B w m.lm lam b).sum

theorem res_one (hQ : TabOk P E.Q) (h : Rel Cx g w tm fr m) {r : ResultVar} {vs : List V} (he : resV E.Q fr m [r] = some vs) : ∃ v y, vs = [v] ∧ (resMod tm r).run P w = .ok y w ∧ RepV g w v y ∧
    (∀ B, pm B v y ≤ tms fr tm B (resTmps [r]) + bxs w m g.lam B (resBoxes fr [r])) ∧ ∀ b ∈ resBoxes fr [r], b < m.lm.length := by
  cases r with
  | tmp t =>
    simp only [resV, Option.map_some, Option.some.injEq] at he
    subst he
    exact ⟨_, _, rfl, by simp [resMod], h.frm t, fun B => by simp [tms, resTmps], fun b hb => by simp [resBoxes] at hb⟩
  | cell a t =>
    simp only [resV, Option.map_some, Option.bind_eq_some_iff, Option.some.injEq] at he
    obtain ⟨n, hn, cs, hl, u, hu, rfl⟩ := he
    have hra : RepV g w (cp (rd fr a)) (tm.getD a undef) := (h.frm a).cp
    obtain ⟨hlen, B, off, F, hy, hc⟩ := ld_rel h hra hl
    have fin : ∀ (cs' : List V), cs'.length = cs.length → (∀ (j : Nat) (c : V), cs'[j]? = some c → RepV g w c (F j)) → ofCells E.Q t cs' = some u → ∃ b, (resMod tm (.cell a t)).run P w = .ok (valOf b n F) w ∧ RepV g w u (valOf b n F) ∧
        ∀ (B : Nat) (ys : Array Value) (k : Nat), (∀ j, j < n → ys.getD (k + j) undef = F j) → pm B u (valOf b n F) = pmL B cs' ys k := by
      intro cs' hl' hc' hof
      obtain ⟨b, hb, hb1, hrep, hpm⟩ := ofCells_rel hof hc'
      rw [hl', hlen] at hb1 hrep hpm
      have hrun := run_loadAt (P := P) hQ hn hb (w := w) (B := B) (o := off) (f := F) (fun j hj => (hc j cs[j] (by simp [hlen, hj])).1) hb1
      refine ⟨b, ?_, hrep, hpm⟩
      simp only [resMod, hy, asAddr, Sem.run_bind, Sem.run_pure, Result.andThen_ok]
      simpa [Instr.loadAt, Instr.sureAddr] using hrun
    by_cases hlp : isLptr (rd fr a) = true
    · obtain ⟨b, j, hbj⟩ : ∃ b j, rd fr a = .lptr b j := by
        cases hx : rd fr a <;> rw [hx] at hlp <;> simp [isLptr] at hlp
        exact ⟨_, _, rfl⟩
      rw [hbj] at hu hra hl
      simp only at hu
      obtain ⟨bb, q1, q2, q3⟩ := fin cs rfl (fun j c hj => (hc j c hj).2) hu
      refine ⟨u, _, rfl, q1, q2, fun B' => ?_, fun b' hb' => ?_⟩
      · simp only [cp] at hra hl
        generalize hyy : tm.getD a undef = yy at hra hy
        cases hra with
        | lptr _ _ R hlam =>
          rw [Value.pointer.injEq, Option.some.injEq, Addr.mk.injEq] at hy
          obtain ⟨rfl, rfl, _⟩ := hy
          unfold ld at hl
          simp only at hl
          cases hx : m.lm[b]? with
          | none => simp [hx] at hl
          | some x =>
            simp only [hx, getCells] at hl
            split at hl
            · rename_i hfit
              simp only [Option.some.injEq] at hl
              obtain ⟨h0, ys, T, hblk, hsz, hcells⟩ := h.lm.box b x R hx hlam
              have e1 := q3 B' ys j fun i hi => by
                have h1 := (hc i cs[i] (by simp [hlen, hi])).1
                have hlt : j + i < ys.size := by omega
                simp only [World.cell?, hblk, Option.isSome_none, Bool.false_eq_true, if_false] at h1
                rw [Array.getElem?_eq_getElem hlt] at h1
                simp only [Option.some.injEq] at h1
                simp [Array.getD_eq_getD_getElem?, hlt, h1]
              rw [e1]
              have e2 : pmL B' cs ys j ≤ pmL B' x ys 0 := by
                have := cut3 x hfit
                rw [this, pmL_append, pmL_append]
                have e3 : (x.take j).length = j := by simp; omega
                rw [e3, Nat.zero_add, hl]
                omega
              have e4 : lterm B' w m.lm g.lam b = (if R = B' then 1 else 0) + pmL B' x ys 0 := by
                unfold lterm
                have : g.lam.getD b 0 = R := by simp [List.getD, hlam]
                rw [this]
                have : m.lm.getD b [] = x := by simp [List.getD, hx]
                rw [this]
                have : conc w R = ys := by unfold conc; rw [hblk]
                rw [this]
              simp only [resBoxes, hbj, bxs, List.map_cons, List.map_nil, List.sum_cons, List.sum_nil, e4]
              omega
            · cases hl
      · simp only [resBoxes, hbj, List.mem_singleton] at hb'
        subst hb'
        simp only [cp] at hra
        generalize hyy : tm.getD a undef = yy at hra
        cases hra with
        | lptr _ _ R hlam => have := lt_of_get hlam; rw [h.lm.len] at this; exact this
    · have hu' : ofCells E.Q t (cpL cs) = some u := by
        cases hx : rd fr a <;> rw [hx] at hu hlp <;> first | exact hu | simp [isLptr] at hlp
      obtain ⟨bb, q1, q2, _⟩ := fin (cpL cs) (cpL_length cs) (fun j c hj => by
        rw [cpL_get] at hj
        simp only [Option.map_eq_some_iff] at hj
        obtain ⟨d, hd, rfl⟩ := hj
        exact (hc j d hd).2.cp) hu'
      refine ⟨u, _, rfl, q1, q2, fun B' => ?_, fun b' hb' => ?_⟩
      · rw [pm_noown B' u _ (ofCells_noown hu' (hasOwnL_cp cs))]; omega
      · cases hx : rd fr a <;> rw [hx] at hlp <;> simp [resBoxes, hx] at hb' <;> simp [isLptr] at hlp

theorem resTmps_cons (r : ResultVar) (rs : List ResultVar) : resTmps (r :: rs) = resTmps [r] ++ resTmps rs := by cases r <;> rfl
theorem resBoxes_cons (fr : Fr) (r : ResultVar) (rs : List ResultVar) : resBoxes fr (r :: rs) = resBoxes fr [r] ++ resBoxes fr rs := by
  cases r with
  | tmp t => rfl
  | cell a t => simp only [resBoxes]; split <;> rfl

theorem resV_cons {Q : Tab} {r : ResultVar} {rs : List ResultVar} {vs : List V} (h : resV Q fr m (r :: rs) = some vs) : ∃ v us, resV Q fr m [r] = some [v] ∧ resV Q fr m rs = some us ∧ vs = v :: us := by
  cases r with
  | tmp t =>
    simp only [resV, Option.map_eq_some_iff] at h ⊢
    obtain ⟨us, hus, rfl⟩ := h
    exact ⟨_, us, ⟨[], rfl, rfl⟩, hus, rfl⟩
  | cell a t =>
    simp only [resV, Option.bind_eq_some_iff, Option.map_eq_some_iff] at h ⊢
    obtain ⟨n, hn, cs, hl, u, hu, us, hus, rfl⟩ := h
    exact ⟨u, us, ⟨n, hn, cs, hl, u, hu, [], rfl, rfl⟩, hus, rfl⟩

theorem res_all (hQ : TabOk P E.Q) (h : Rel Cx g w tm fr m) : ∀ (rs : List ResultVar) (vs : List V), resV E.Q fr m rs = some vs → ∃ ys : List Value, (rs.mapM (resMod tm)).run P w = .ok ys w ∧ ys.length = vs.length ∧
    (∀ (j : Nat) (c : V), vs[j]? = some c → RepV g w c (ys.toArray.getD j undef)) ∧ (∀ B, pmL B vs ys.toArray 0 ≤ tms fr tm B (resTmps rs) + bxs w m g.lam B (resBoxes fr rs)) ∧ ∀ b ∈ resBoxes fr rs, b < m.lm.length
  | [], vs, he => by
    simp only [resV, Option.some.injEq] at he
    subst he
    exact ⟨[], by simp, rfl, fun j c hj => by simp at hj, fun B => by simp [pmL], fun b hb => by simp [resBoxes] at hb⟩
  | r :: rs, vs, he => by
    obtain ⟨v, us, h1, h2, rfl⟩ := resV_cons he
    obtain ⟨v', y, e, p1, p2, p3, p4⟩ := res_one (P := P) hQ h h1
    simp only [List.cons.injEq, and_true] at e
    subst e
    obtain ⟨ys, q1, q2, q3, q4, q5⟩ := res_all hQ h rs us h2
    refine ⟨y :: ys, ?_, by simp [q2], fun j c hj => ?_, fun B => ?_, fun b hb => ?_⟩
    · simp [List.mapM_cons, p1, q1]
    · cases j with
      | zero => simp at hj; subst hj; simpa [Array.getD_eq_getD_getElem?] using p2
      | succ j => simpa [Array.getD_eq_getD_getElem?] using q3 j c (by simpa using hj)
    · rw [resTmps_cons, resBoxes_cons]
      simp only [tms, bxs, List.map_append, List.sum_append, pmL]
      have e1 : pmL B us (y :: ys).toArray (0 + 1) = pmL B us ys.toArray 0 := pmL_congr fun i hi => by
        simp only [Array.getD_eq_getD_getElem?, List.getElem?_toArray]
        rw [show 0 + 1 + i = (0 + i) + 1 from by omega, List.getElem?_cons_succ]
      rw [e1]
      have h3 := p3 B
      have h4 := q4 B
      simp only [tms, bxs] at h3 h4
      have e2 : ((y :: ys).toArray.getD 0 undef) = y := by simp [Array.getD_eq_getD_getElem?]
      rw [e2]
      omega
    · rw [resBoxes_cons, List.mem_append] at hb
      rcases hb with hb | hb
      · exact p4 b hb
      · exact q5 b hb

/-- the results of a function -/
def resOf (vs : List V) : V := match vs with | [v] => v | vs => .tup vs

theorem results_rel (hQ : TabOk P E.Q) (h : Rel Cx g w tm fr m) (hlf : ∀ x ∈ m.h, blkLf x = true) {fn : Func} {vs : List V} (he : resV E.Q fr m fn.results.toList = some vs) (hl : lfL vs = true) (h1 : (resTmps fn.results.toList).Nodup) (h2 : (resBoxes fr fn.results.toList).Nodup) :
    ∃ y, (results fn tm).run P w = .ok y w ∧ RelV Cx (noLam g) w #[] fr0 ⟨[], m.h⟩ (resOf vs) y ∧ lf (resOf vs) = true := by
  obtain ⟨ys, p1, p2, p3, p4, p5⟩ := res_all (P := P) hQ h _ vs he
  have hrun : (results fn tm).run P w = .ok (if h : ys.toArray.size = 1 then ys.toArray[0] else .tuple ys.toArray) w := by
    have hres : results fn tm = (do let vs ← fn.results.mapM (resMod tm); pure (if h : vs.size = 1 then vs[0] else .tuple vs)) := by
      unfold results
      congr 1
    rw [hres, Array.mapM_eq_mapM_toList]
    simp [p1]
  have hcn : ∀ B, pmL B vs ys.toArray 0 ≤ fcnt B fr tm + lcnt B w m.lm g.lam := fun B => by
    have e1 := p4 B
    have e2 : tms fr tm B (resTmps fn.results.toList) ≤ fcnt B fr tm := sum_nodup0 _ _ h1 fun t _ ht => by rw [getD_undef ht, pm_tuple0]
    have e3 : bxs w m g.lam B (resBoxes fr fn.results.toList) ≤ lcnt B w m.lm g.lam := sum_nodup0 _ _ h2 fun b hb hm => by have := p5 b hb; omega
    omega
  have key : ∀ (v : V) (y : Value), RepV g w v y → lf v = true → (∀ B, pm B v y ≤ pmL B vs ys.toArray 0) → RelV Cx (noLam g) w #[] fr0 ⟨[], m.h⟩ v y := fun v y hv hlv hpm =>
    ⟨h.hp.noLam hlf, ⟨rfl, fun b cs R hx => by simp at hx⟩, frRel0 _ _, fun B => by
      have e1 : fcnt B fr0 #[] = 0 := rfl
      have e2 : lcnt B w [] (noLam g).lam = 0 := rfl
      show fcnt B fr0 #[] + lcnt B w [] (noLam g).lam + hcnt B w m.h g.ρ + pm B v y + Cx B ≤ 1
      have := h.one B
      have := hcn B
      have := hpm B
      rw [e1, e2]
      omega, h.cnew, hv.noLam hlv⟩
  refine ⟨_, hrun, ?_⟩
  cases vs with
  | nil =>
    have : ys = [] := List.length_eq_zero_iff.1 p2
    subst this
    exact ⟨key _ _ (.tup [] #[] rfl fun j c hj => by simp at hj) rfl fun B => by simp [pm, resOf], rfl⟩
  | cons v us => cases us with
    | nil =>
      obtain ⟨y, rfl⟩ : ∃ y, ys = [y] := by
        cases ys with
        | nil => simp at p2
        | cons y zs => cases zs with
          | nil => exact ⟨y, rfl⟩
          | cons => simp at p2
      have hv := p3 0 v (by simp)
      simp only [Array.getD_eq_getD_getElem?, List.getElem?_toArray, List.getElem?_cons_zero, Option.getD_some] at hv
      simp only [lfL, Bool.and_true] at hl
      refine ⟨key _ _ (by simpa [resOf] using hv) hl fun B => ?_, hl⟩
      simp [resOf, pmL, Array.getD_eq_getD_getElem?]
    | cons u us =>
      have hsz : ¬ ys.toArray.size = 1 := by simp only [List.size_toArray, p2, List.length_cons]; omega
      rw [dif_neg hsz]
      refine ⟨key _ _ (.tup _ _ (by simp [p2]) p3) (by simpa [resOf, lf] using hl) fun B => by simp [pm, resOf], by simpa [resOf, lf] using hl⟩

end
end Go.Wn

namespace Go.Wn
open Go

theorem Sm_head (n : Nat) (f : Nat → Nat) : Sm (n + 1) f = f 0 + Sm n fun i => f (i + 1) := by
  induction n with
  | zero => simp [Sm]
  | succ n ih =>
    have e1 : Sm (n + 1 + 1) f = Sm (n + 1) f + f (n + 1) := rfl
    have e2 : Sm (n + 1) (fun i => f (i + 1)) = Sm n (fun i => f (i + 1)) + f (n + 1) := rfl
    omega

theorem pmL_Sm (B : Nat) : ∀ (cs : List V) (ys : Array Value) (k : Nat), pmL B cs ys k = Sm cs.length fun j => pm B (cs.getD j .nov) (ys.getD (k + j) undef)
  | [], _, _ => rfl
  | c :: cs, ys, k => by
    simp only [pmL, List.length_cons]
    rw [Sm_head, pmL_Sm B cs ys (k + 1)]
    congr 1
    refine Sm_congr fun i hi => ?_
    rw [show k + 1 + i = k + (i + 1) from by omega]
    rfl

theorem look_zip : ∀ (as : List V) (k t : Nat), look ((as.zipIdx k).map fun x => (x.2, x.1)) (k + t) .nov = as.getD t .nov
  | [], k, t => by simp [look]
  | a :: as, k, t => by
    simp only [List.zipIdx_cons, List.map_cons, look]
    cases t with
    | zero => simp
    | succ t =>
      have e : Nat.beq k (k + (t + 1)) = false := by
        cases h : Nat.beq k (k + (t + 1)) with
        | false => rfl
        | true => have := Nat.eq_of_beq_eq_true h; omega
      rw [e]
      have := look_zip as (k + 1) t
      rw [show k + 1 + t = k + (t + 1) from by omega] at this
      simpa using this

theorem look_zip_lt : ∀ (as : List V) (k t : Nat), t < k → look ((as.zipIdx k).map fun x => (x.2, x.1)) t .nov = .nov
  | [], _, _, _ => rfl
  | a :: as, k, t, h => by
    simp only [List.zipIdx_cons, List.map_cons, look]
    have e : Nat.beq k t = false := by
      cases h' : Nat.beq k t with
      | false => rfl
      | true => have := Nat.eq_of_beq_eq_true h'; omega
    rw [e]
    exact look_zip_lt as (k + 1) t (by omega)

structure EnvOk (P : Program) (E : Env) : Prop where
  tab : TabOk P E.Q
  code : ∀ (f : FuncId) (fn : Func) (c : Code), E.sum f = none → E.Q.fn f = some fn → fn.body = some c → codeOk E f fn.ntmps c = true
  sump : ∀ (f : FuncId) (S : Ctx → List V → Heap → Option (V × Heap)), E.sum f = some S → ∀ (K : Ctx) (as : List V) (h : Heap) (v : V) (h' : Heap), S K as h = some (v, h') → K.ro ≤ h.length → lfL as = true → CallInv E K f h v h'
  sum : ∀ (f : FuncId) (S : Ctx → List V → Heap → Option (V × Heap)), E.sum f = some S → ∀ (K : Ctx) (as : List V) (h : Heap) (v : V) (h' : Heap), S K as h = some (v, h') → Wf K h → lfL as = true →
    ∀ (Cx : Nat → Nat) (g : Gh) (w : World) (ys : Array Value), RelV Cx g w #[] fr0 ⟨[], h⟩ (.tup as) (.tuple ys) → Calls P f ys w fun e w' => ∃ y g', e = .returned y ∧ CallPost E K f Cx g w h v h' y g' w'

theorem ctxOf_ro (m : Nat) (K : Ctx) (n : Nat) : (ctxOf m K n).ro = if 2 ≤ m then n else K.ro := by
  unfold ctxOf
  split
  · rename_i h; rw [if_neg (by omega)]
  · split
    · rename_i h; rw [if_neg (by omega)]
    · rw [if_pos (by omega)]

section
variable {P : Program} {E : Env} {C : Handler} {L : LHandler}

theorem fzOut_lf {pu : Bool} {h : Heap} {n : Nat} {v v' : V} (he : fzOut pu h n v = some v') : lf v' = true := by
  have cell : ∀ v v', fzCell h n v = some v' → lf v' = true := fun v v' he => by
    unfold fzCell at he
    split at he
    · simp only [Option.some.injEq] at he; subst he; rfl
    · split at he
      · split at he
        · split at he <;> (simp only [Option.map_eq_some_iff] at he; obtain ⟨p, _, rfl⟩ := he; rfl)
        · cases he
      · cases he
    · simp only [Option.map_eq_some_iff] at he; obtain ⟨p, _, rfl⟩ := he; rfl
  have pur : ∀ v v', fzPure h n v = some v' → lf v' = true := fun v v' he => by
    unfold fzPure at he
    simp only [Option.map_eq_some_iff] at he; obtain ⟨p, _, rfl⟩ := he; rfl
  have lst : ∀ (F : V → Option V) (vs vs' : List V), (∀ v v', F v = some v' → lf v' = true) → mapO F vs = some vs' → lfL vs' = true := fun F vs vs' hF hm => by
    obtain ⟨l1, l2⟩ := mapO_spec vs vs' hm
    rw [lfL_all, List.all_eq_true]
    intro x hx
    obtain ⟨j, hj⟩ := List.getElem?_of_mem hx
    have hjl := lt_of_get hj
    obtain ⟨u, q1, q2⟩ := l2 j vs[j] (by rw [List.getElem?_eq_getElem (by omega)])
    rw [hj] at q1
    simp only [Option.some.injEq] at q1
    subst q1
    exact hF _ _ q2
  have part : ∀ v v', fzPart h n v = some v' → lf v' = true := fun v v' he => by
    unfold fzPart at he
    split at he
    · simp only [Option.map_eq_some_iff] at he
      obtain ⟨cs, hcs, rfl⟩ := he
      exact lf_mkAgg (lst _ _ _ cell hcs)
    · exact cell _ _ he
  unfold fzOut at he
  split at he
  · split at he
    · simp only [Option.map_eq_some_iff] at he
      obtain ⟨vs', hvs, rfl⟩ := he
      exact lst _ _ _ pur hvs
    · exact pur _ _ he
  · split at he
    · split at he
      · simp only [Option.map_eq_some_iff] at he
        obtain ⟨vs', hvs, rfl⟩ := he
        exact lst _ _ _ part hvs
      · exact part _ _ he
    · cases he

/-- what the run of a body gives, taken apart -/
theorem evBody_parts {K : Ctx} {f : FuncId} {fn : Func} {as : List V} {h : Heap} {v : V} {h' : Heap} (he : evBody E C L K f fn as h = some (v, h')) :
    ∃ code r vs, fn.body = some code ∧ as.length ≤ fn.ntmps ∧ (resTmps fn.results.toList).Nodup ∧ evCode E C L (ctxOf (E.md f) K h.length) f code ⟨⟨as.zipIdx.map fun x => (x.2, x.1), .nov⟩, ⟨[], h⟩⟩ = some r ∧ (r.1 = .nrm ∨ r.1 = .ret) ∧
      resV E.Q r.2.fr r.2.m fn.results.toList = some vs ∧ lfL vs = true ∧ (resBoxes r.2.fr fn.results.toList).Nodup ∧
      ((E.md f = 0 ∧ v = resOf vs ∧ h' = r.2.m.h) ∨ (E.md f ≠ 0 ∧ fzOut (E.md f == 2) r.2.m.h h.length (resOf vs) = some v ∧ h' = if E.md f = 1 then r.2.m.h.take h.length else h)) := by
  unfold evBody at he
  split at he
  · cases he
  · rename_i code hb
    split at he
    · rename_i hc
      simp only [Option.bind_eq_some_iff] at he
      obtain ⟨r, hr, he⟩ := he
      have hex : (r.1 = .nrm ∨ r.1 = .ret) ∧ (resV E.Q r.2.fr r.2.m fn.results.toList).bind (fun vs => if lfL vs = true ∧ (resBoxes r.2.fr fn.results.toList).Nodup then (if E.md f = 0 then some (resOf vs, r.2.m.h) else (fzOut (E.md f == 2) r.2.m.h h.length (resOf vs)).map fun v => (v, if E.md f = 1 then r.2.m.h.take h.length else h)) else none) = some (v, h') := by
        cases hx : r.1 with
        | nrm => rw [hx] at he; exact ⟨.inl rfl, he⟩
        | ret => rw [hx] at he; exact ⟨.inr rfl, he⟩
        | ext i => rw [hx] at he; cases he
      obtain ⟨hx, he⟩ := hex
      simp only [Option.bind_eq_some_iff] at he
      obtain ⟨vs, hvs, he⟩ := he
      split at he
      · rename_i hl
        refine ⟨code, r, vs, hb, hc.1, hc.2, hr, hx, hvs, hl.1, hl.2, ?_⟩
        split at he
        · rename_i hm
          simp only [Option.some.injEq, Prod.mk.injEq] at he
          exact .inl ⟨hm, he.1.symm, he.2.symm⟩
        · rename_i hm
          simp only [Option.map_eq_some_iff, Prod.mk.injEq] at he
          obtain ⟨u, hu, rfl, rfl⟩ := he
          exact .inr ⟨hm, hu, rfl⟩
      · cases he
    · cases he

theorem lf_resOf {vs : List V} (h : lfL vs = true) : lf (resOf vs) = true := by
  unfold resOf
  split
  · simpa [lfL] using h
  · simpa [lf] using h

theorem evBody_inv (hP : CallPure E C) (hL : LoopPure L) {K : Ctx} {f : FuncId} {fn : Func} {as : List V} {h : Heap} {v : V} {h' : Heap} (hro : K.ro ≤ h.length) (he : evBody E C L K f fn as h = some (v, h')) : CallInv E K f h v h' := by
  obtain ⟨code, r, vs, h1, h2, h3, h4, h5, h6, h7, h8, h9⟩ := evBody_parts he
  have hro' : (ctxOf (E.md f) K h.length).ro ≤ h.length := by rw [ctxOf_ro]; split <;> omega
  have hinv := evCode_inv hP hL code _ r h4 hro'
  rcases h9 with ⟨m0, rfl, rfl⟩ | ⟨m0, hfz, rfl⟩
  · refine ⟨lf_resOf h7, ?_, fun h => by omega⟩
    have e : ctxOf (E.md f) K h.length = K := by unfold ctxOf; rw [if_pos m0]
    rw [e] at hinv
    exact hinv
  · refine ⟨fzOut_lf hfz, ?_, fun h => by rw [if_neg (by omega)]⟩
    split
    · rename_i m1
      have e : ctxOf (E.md f) K h.length = ⟨K.ro, h.length⟩ := by unfold ctxOf; rw [if_neg m0, if_pos m1]
      rw [e] at hinv
      exact (HInv.base_ hinv (Nat.le_refl _)).cut hro
    · exact .refl _ _

theorem evBody_sound (hE : EnvOk P E) (hC : CallOk P E C) (hL : LoopOk P E L) (hP : CallPure E C) (hLP : LoopPure L) {K : Ctx} {f : FuncId} {fn : Func} (hf : P.funcs[f]? = some fn) (hcode : ∀ c, fn.body = some c → codeOk E f fn.ntmps c = true)
    {as : List V} {h : Heap} {v : V} {h' : Heap} (hK : Wf K h) (he : evBody E C L K f fn as h = some (v, h')) {Cx : Nat → Nat} {g : Gh} {w : World} {ys : Array Value} (hr : RelV Cx g w #[] fr0 ⟨[], h⟩ (.tup as) (.tuple ys)) :
    Calls P f ys w fun e w' => ∃ y g', e = .returned y ∧ CallPost E K f Cx g w h v h' y g' w' := by
  obtain ⟨code, r, vs, h1, h2, h3, h4, h5, h6, h7, h8, h9⟩ := evBody_parts he
  obtain ⟨ys', e, hyl, hyc⟩ := tup_inv hr.val
  simp only [Value.tuple.injEq] at e
  subst e
  have hlam : g.lam = [] := List.length_eq_zero_iff.1 hr.lm.len
  have hrd : ∀ t, rd (⟨as.zipIdx.map fun x => (x.2, x.1), .nov⟩ : Fr) t = as.getD t .nov := fun t => by
    have := look_zip as 0 t
    rw [Nat.zero_add] at this
    exact this
  have hsz : (ys ++ Array.replicate (fn.ntmps - ys.size) undef).size = fn.ntmps := by simp; omega
  have htm : ∀ t, (ys ++ Array.replicate (fn.ntmps - ys.size) undef).getD t undef = ys.getD t undef := fun t => by
    simp only [Array.getD_eq_getD_getElem?]
    rcases Nat.lt_or_ge t ys.size with ht | ht
    · rw [Array.getElem?_append_left ht]
    · rw [Array.getElem?_append_right ht, Array.getElem?_replicate]
      rw [Array.getElem?_eq_none ht]
      split <;> rfl
  have hfc : ∀ B, fcnt B (⟨as.zipIdx.map fun x => (x.2, x.1), .nov⟩ : Fr) (ys ++ Array.replicate (fn.ntmps - ys.size) undef) ≤ pmL B as ys 0 := fun B => by
    rw [pmL_Sm]
    unfold fcnt
    rw [hsz]
    refine Sm_ext h2 (fun i hi => ?_) fun i h1 h2 => ?_
    · rw [hrd, htm, Nat.zero_add]; exact Nat.le_refl _
    · rw [hrd]
      have : as.getD i V.nov = .nov := by simp [List.getD, List.getElem?_eq_none h1]
      rw [this, pm_noown B .nov _ rfl]
  have hrel : Rel Cx g w (ys ++ Array.replicate (fn.ntmps - ys.size) undef) ⟨as.zipIdx.map fun x => (x.2, x.1), .nov⟩ ⟨[], h⟩ := by
    refine ⟨hr.hp, hr.lm, fun t => ?_, fun B => ?_, hr.cnew⟩
    · rw [hrd, htm]
      rcases Nat.lt_or_ge t as.length with ht | ht
      · have e0 : as.getD t V.nov = as[t] := by simp [List.getD, List.getElem?_eq_getElem ht]
        rw [e0]
        exact hyc t as[t] (List.getElem?_eq_getElem ht)
      · have e0 : as.getD t V.nov = .nov := by simp [List.getD, List.getElem?_eq_none ht]
        have e1 : ys.getD t undef = undef := by simp [Array.getD_eq_getD_getElem?, Array.getElem?_eq_none (show ys.size ≤ t by omega)]
        rw [e0, e1]
        exact .nov
    · have e1 := hr.one B
      have e2 := hfc B
      have e3 : fcnt B fr0 #[] = 0 := rfl
      simp only [pm] at e1
      simp only at e1 ⊢
      omega
  have hro : K.ro ≤ h.length := Nat.le_trans hK.ro hK.base
  have hK' : Wf (ctxOf (E.md f) K h.length) h := by
    unfold ctxOf
    split
    · exact hK
    · split
      · exact ⟨hro, Nat.le_refl _, hK.lf, fun b x _ hx => hrel.rbAll b x hx⟩
      · exact ⟨Nat.le_refl _, Nat.le_refl _, hK.lf, fun b x _ hx => hrel.rbAll b x hx⟩
  refine calls_of_wp hf h1 ?_
  refine evCode_sound hE.tab hC hL hP hLP code _ _ r h4 g w _ _ (by show codeOk E f (ys ++ _).size code = true; rw [hsz]; exact hcode code h1) hrel hK' fun a' w' hfin => ?_
  obtain ⟨g1, f1, f2, f3, f4⟩ := hfin
  have hw1 := f2.inv.wf hK'
  obtain ⟨y, y1, y2, y3⟩ := results_rel hE.tab f1 hw1.lf h6 h7 h3 h8
  have hst : Stp (fun B => Cx B + hcnt B w (h.take (if 2 ≤ E.md f then h.length else K.ro)) g.ρ) g w (noLam g1) w' := by
    have h0 : Stp (fun B => Cx B + hcnt B w (h.take (if 2 ≤ E.md f then h.length else K.ro)) g.ρ) g w g1 w' := f2.stp.mono fun B => by
      unfold D0
      rw [ctxOf_ro]
      exact Nat.le_refl _
    exact { h0 with ge := ⟨fun b B e => by rw [hlam] at e; simp at e, h0.ge.pt, h0.ge.sh, h0.ge.un⟩ }
  have hold : ∀ b, b < (if 2 ≤ E.md f then h.length else K.ro) → g1.ρ[b]? = g.ρ[b]? := fun b hb => f2.old b (by rw [ctxOf_ro]; exact hb)
  have post : ∃ g', CallPost E K f Cx g w h v h' y g' w' := by
    rcases h9 with ⟨m0, rfl, rfl⟩ | ⟨m0, hfz, rfl⟩
    · exact ⟨noLam g1, y2, hst, hold⟩
    · have hb : (ctxOf (E.md f) K h.length).base = h.length := by
        unfold ctxOf
        rw [if_neg m0]
        split <;> rfl
      obtain ⟨_, g2, q1, q2, q3⟩ := freeze y2 f2.inv.len hw1.lf (fun b x hbl hx => by
        have := hw1.rb b x (by rw [hb]; exact hbl) hx
        rw [hb] at this; exact this) hfz
      have htake : (if E.md f = 1 then r.2.m.h.take h.length else h) = r.2.m.h.take h.length := by
        split
        · rfl
        · have := take_of_inv f2.inv
          rw [ctxOf_ro, if_pos (by omega)] at this
          rw [this, List.take_length]
      refine ⟨g2, by rw [htake]; exact q1, ?_, fun b hb' => ?_⟩
      · refine q3 _ g w hst (fun B => ?_) (by rw [hr.hp.len]; exact Nat.le_refl _) hlam (fun b z e => by rw [hr.hp.sh] at e; exact shp_lt e)
        -- what the callers count stands below
        have e1 := D0_eq f2.stp f2.old (take_of_inv f2.inv) B
        unfold D0 at e1
        rw [ctxOf_ro] at e1
        have e2 : hcnt B w' (r.2.m.h.take (if 2 ≤ E.md f then h.length else K.ro)) g1.ρ ≤ hcnt B w' (r.2.m.h.take h.length) g1.ρ := by
          rw [hcnt_take, hcnt_take]
          exact Sm_mono_len (by split <;> omega)
        show Cx B + hcnt B w (h.take (if 2 ≤ E.md f then h.length else K.ro)) g.ρ ≤ Cx B + hcnt B w' (r.2.m.h.take h.length) (noLam g1).ρ
        have e3 : (noLam g1).ρ = g1.ρ := rfl
        have e4 : (⟨[], h⟩ : Mem).h = h := rfl
        rw [e3]
        simp only at e1
        omega
      · rw [q2]
        show (g1.ρ.take h.length)[b]? = _
        rw [List.getElem?_take, if_pos (by split at hb' <;> omega)]
        exact hold b hb'
  obtain ⟨g', hpost⟩ := post
  rcases h5 with hx | hx <;> rw [hx] <;> exact ⟨f4, y, y1, y, g', rfl, hpost⟩

end

/-- the evaluator is sound -/
theorem hand_ok {P : Program} {E : Env} (hE : EnvOk P E) : ∀ d, CallOk P E (hand E d).1 ∧ CallPure E (hand E d).1 ∧ LoopPure (hand E d).2 ∧ LoopOk P E (hand E d).2 := by
  intro d
  induction d using Nat.strongRecOn with
  | _ d ih =>
    have hL := loopOk_of hE.tab d ih
    cases d with
    | zero =>
      refine ⟨?_, ?_, ?_, hL⟩
      · intro K f as h v h' he; simp [hand] at he
      · intro K f as h v h' he; simp [hand] at he
      · intro K f body st r he; simp [hand] at he
    | succ d =>
      obtain ⟨c1, c2, c3, c4⟩ := ih d (by omega)
      have hP : CallPure E (hand E (d + 1)).1 := by
        intro K f as h v h' he hro hlf
        simp only [hand, evFn] at he
        split at he
        · rename_i S hS; exact hE.sump f S hS K as h v h' he hro hlf
        · split at he
          · exact evBody_inv c2 c3 hro he
          · cases he
      refine ⟨?_, hP, ?_, hL⟩
      · intro K f as h v h' he hK hlf
        refine ⟨hP K f as h v h' he (Nat.le_trans hK.ro hK.base) hlf, fun Cx g w ys hr => ?_⟩
        simp only [hand, evFn] at he
        split at he
        · rename_i S hS; exact hE.sum f S hS K as h v h' he hK hlf Cx g w ys hr
        · rename_i hS
          split at he
          · rename_i fn hfn
            exact evBody_sound hE c1 c4 c2 c3 (hE.tab.fn _ _ hfn) (fun c hc => hE.code f fn c hS hfn hc) hK he hr
          · cases he
      · simp only [hand]; exact evLoop_inv c2 c3

end Go.Wn

namespace Go.Wn
open Go

/-- a search tree -/
inductive Tr (α : Type) where
  | nil
  | node (l : Tr α) (k : Nat) (v : α) (r : Tr α)

def Tr.get {α : Type} : Tr α → Nat → Option α
  | .nil, _ => none
  | .node l k v r, n => cond (Nat.beq n k) (some v) (cond (Nat.ble n k) (l.get n) (r.get n))

def Tr.All {α : Type} (p : Nat → α → Prop) : Tr α → Prop
  | .nil => True
  | .node l k v r => l.All p ∧ p k v ∧ r.All p

theorem Tr.get_all {α : Type} {p : Nat → α → Prop} : ∀ (t : Tr α) (n : Nat) (v : α), t.All p → t.get n = some v → p n v
  | .nil, _, _, _, h => by cases h
  | .node l k u r, n, v, ha, h => by
    obtain ⟨h1, h2, h3⟩ := ha
    simp only [Tr.get] at h
    cases e : Nat.beq n k with
    | true =>
      rw [e] at h
      simp only [cond_true, Option.some.injEq] at h
      subst h
      rw [Nat.eq_of_beq_eq_true e]
      exact h2
    | false =>
      rw [e] at h
      simp only [cond_false] at h
      cases e' : Nat.ble n k with
      | true => rw [e'] at h; exact Tr.get_all l n v h1 h
      | false => rw [e'] at h; exact Tr.get_all r n v h3 h

structure TyE where
  und : TypeDesc
  sz : Nat
  bt : Nat
  zero : Option Value
  plain : Bool

def tabOf' (TT : Tr TyE) (FT : Tr Func) : Tab where
  und := fun t => (TT.get t).map (·.und)
  sz := fun t => (TT.get t).map (·.sz)
  bt := fun t => (TT.get t).map (·.bt)
  zero := fun t => (TT.get t).bind (·.zero)
  fn := fun f => FT.get f
  plain := fun t => match TT.get t with | some e => e.plain | none => false

def zkB (u : TypeDesc) (z : Option Value) : Bool :=
  match z with
  | none => true
  | some z => match u with
    | .struct _ | .array _ _ => (match z with | .agg _ => true | _ => false)
    | _ => z.oneCell'

def TyOk (P : Program) (k : Nat) (e : TyE) : Prop :=
  P.underlying k = some e.und ∧ (∃ i, P.info? k = some i ∧ i.size = e.sz ∧ i.bytes = e.bt ∧ i.zero = e.zero) ∧ zkB e.und e.zero = true ∧ (e.plain = true → P.stoodInHeld k = false ∧ P.eqGuardType P.depth k = false)

theorem tyOk {P : Program} {k : Nat} {u : TypeDesc} {i : TypeInfo} (h1 : P.underlying k = some u) (h2 : P.info? k = some i) (h3 : zkB u i.zero = true) : TyOk P k ⟨u, i.size, i.bytes, i.zero, false⟩ :=
  ⟨h1, ⟨i, h2, rfl, rfl, rfl⟩, h3, fun h => by cases h⟩
theorem tyOkP {P : Program} {k : Nat} {u : TypeDesc} {i : TypeInfo} (h1 : P.underlying k = some u) (h2 : P.info? k = some i) (h3 : zkB u i.zero = true) (h4 : P.stoodInHeld k = false) (h5 : P.eqGuardType P.depth k = false) : TyOk P k ⟨u, i.size, i.bytes, i.zero, true⟩ :=
  ⟨h1, ⟨i, h2, rfl, rfl, rfl⟩, h3, fun _ => ⟨h4, h5⟩⟩

theorem tabOk_of {P : Program} {TT : Tr TyE} {FT : Tr Func} (ht : TT.All (TyOk P)) (hf : FT.All fun f fn => P.funcs[f]? = some fn) : TabOk P (tabOf' TT FT) where
  und := fun t d h => by
    simp only [tabOf', Option.map_eq_some_iff] at h
    obtain ⟨e, he, rfl⟩ := h
    exact (TT.get_all t e ht he).1
  sz := fun t n h => by
    simp only [tabOf', Option.map_eq_some_iff] at h
    obtain ⟨e, he, rfl⟩ := h
    obtain ⟨i, h1, h2, _⟩ := (TT.get_all t e ht he).2.1
    exact ⟨i, h1, h2⟩
  bt := fun t n h => by
    simp only [tabOf', Option.map_eq_some_iff] at h
    obtain ⟨e, he, rfl⟩ := h
    obtain ⟨i, h1, _, h2, _⟩ := (TT.get_all t e ht he).2.1
    exact ⟨i, h1, h2⟩
  zero := fun t z h => by
    simp only [tabOf', Option.bind_eq_some_iff] at h
    obtain ⟨e, he, h⟩ := h
    obtain ⟨i, h1, _, _, h2⟩ := (TT.get_all t e ht he).2.1
    exact ⟨i, h1, by rw [h2]; exact h⟩
  zk := fun t z b h hb => by
    simp only [tabOf', Option.bind_eq_some_iff] at h
    obtain ⟨e, he, h⟩ := h
    have h1 := (TT.get_all t e ht he).2.2.1
    have hu : (tabOf' TT FT).und t = some e.und := by simp [tabOf', he]
    unfold aggT at hb
    rw [hu] at hb
    simp only [Option.map_some, Option.some.injEq] at hb
    rw [h] at h1
    unfold zkB at h1
    simp only at h1
    subst hb
    cases hd : e.und <;> rw [hd] at h1 <;> simp only at h1 ⊢ <;> first
      | (cases z <;> simp at h1; simp)
      | (simpa using h1)
  fn := fun f x h => FT.get_all f x hf h
  plain := fun t h => by
    simp only [tabOf'] at h
    split at h
    · rename_i e he
      exact (TT.get_all t e ht he).2.2.2 h
    · cases h

/-- the code of all functions of a table is as it must be -/
def codesOk (E : Env) : Tr Func → Bool
  | .nil => true
  | .node l k fn r => codesOk E l && (match fn.body with | some c => codeOk E k fn.ntmps c | none => true) && codesOk E r

theorem codesOk_get {E : Env} : ∀ (t : Tr Func) (n : Nat) (fn : Func) (c : Code), codesOk E t = true → t.get n = some fn → fn.body = some c → codeOk E n fn.ntmps c = true
  | .nil, _, _, _, _, h, _ => by cases h
  | .node l k u r, n, fn, c, ha, h, hb => by
    simp only [codesOk, Bool.and_eq_true] at ha
    obtain ⟨⟨h1, h2⟩, h3⟩ := ha
    simp only [Tr.get] at h
    cases e : Nat.beq n k with
    | true =>
      rw [e] at h
      simp only [cond_true, Option.some.injEq] at h
      subst h
      rw [Nat.eq_of_beq_eq_true e]
      rw [hb] at h2
      exact h2
    | false =>
      rw [e] at h
      simp only [cond_false] at h
      cases e' : Nat.ble n k with
      | true => rw [e'] at h; exact codesOk_get l n fn c h1 h hb
      | false => rw [e'] at h; exact codesOk_get r n fn c h3 h hb

end Go.Wn
