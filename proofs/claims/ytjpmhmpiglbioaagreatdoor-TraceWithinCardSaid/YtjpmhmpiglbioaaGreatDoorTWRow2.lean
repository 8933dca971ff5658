/- Proved: 'winnowerlaw15.TraceWithin' answers true whatever the input, and each argument reads behind the call as it read before (the tied card). Conditions: those of the given row (the listed package variable laid as the program's text lays it); none beside. -/
import Derived.Test.YtjpmhmpiglbioaaGreatDoorTWRow
set_option linter.unusedSimpArgs false
set_option linter.unusedVariables false
namespace Go.Proofs.YtjpmhmpiglbioaaGreatDoor
open Go Go.Wn Go.ChangeShapes Go.WideShapes Go.ChangeAt Go.WideMaps Go.WideElems Go.RowKit

/-- what stood below reads as it did: the two arguments of a law that answers a bool -/
theorem post_two {H : Type} {enc : TypeId × Value → H} {f : Func} {s : ChangeSpec} {apart fresh handsOn : Bool} {W W' : World} {t0 t1 : TypeId} {v0 v1 : Value} {d0 d1 : DataW H} {p0 p1 : List MemPlace} {b : Bool}
    (hp : f.params.toList = [t0, t1]) (hr : f.resultTypes = #[4]) (hv : s.vars = [])
    (hr0 : Tryz.prog.readableRec t0 = true) (hr1 : Tryz.prog.readableRec t1 = true) (hs0 : t0 < Tryz.prog.types.size) (hs1 : t1 < Tryz.prog.types.size)
    (hW : DataW.Whole enc Tryz.prog f.params.toList s.vars apart W [v0, v1] [d0, d1] [] (p0 ++ p1))
    (h0 : DataW.Trod enc Tryz.prog W 0 (fun _ => true) true t0 v0 d0 p0) (h1 : DataW.Trod enc Tryz.prog W 0 (fun _ => true) true t1 v1 d1 p1)
    (he : s.fn H [d0, d1] = { results := [.lit (.bool b)], args := [d0, d1] }) (hB : Below W.heap.size W W') :
    s.post enc Tryz.prog f apart fresh handsOn false W #[v0, v1] (.bool b) W' := by
  have hlt : ∀ x ∈ p0 ++ p1, x.block < W.heap.size := fun x hx => by simpa using hW.lt x hx
  refine ⟨[d0, d1], [], p0 ++ p1, [], p0 ++ p1, [], hW, ?_, ?_, ?_, hB.frame _, fun h => by cases h⟩
  · rw [hr, List.append_nil, he]
    exact trodAll_mk1 (shut_bool Tryz.underlying4 b)
  · rw [hp, List.append_nil, he]
    exact trodAll_mk2 (Below.trod Tryz.laidOut hr0 hs0 h0 hB (fun x hx => hlt x (List.mem_append_left _ hx))) (Below.trod Tryz.laidOut hr1 hs1 h1 hB (fun x hx => hlt x (List.mem_append_right _ hx)))
  · rw [hv, List.append_nil, he]
    rfl

set_option maxRecDepth 100000 in
theorem traceWithin_lifted (os : Os) (started : os.Started) (H : Type) (enc : TypeId × Value → H) :
    ReturnsInHanded {} Tryz.checked os 12 .any (fun w args => (Rows.traceWithinSpec.pre enc Tryz.prog Tryz.f12 [] false w args ∧ laidMetH Tryz.prog Rows.traceWithinRow.laid w) ∧ sizedMet enc Tryz.prog Tryz.f12 (OpenSpec.ofChange Rows.traceWithinSpec) false w args)
      (Rows.traceWithinSpec.post enc Tryz.prog Tryz.f12 false true false false) := by
  refine returnsInHanded_of_change_and (C := Tryz.checked) (X := fun w _ => laidMetH Tryz.prog Rows.traceWithinRow.laid w) (fun _ _ _ hh h => h.of_heap hh) Tryz.own started (by kernel_rfl) Tryz.func12
    (ChangeSpec.witness_shaped (enc := enc) (C := Tryz.checked) (os := os) (X := fun w _ => laidMetH Tryz.prog Rows.traceWithinRow.laid w) false (World.doorLaid Tryz.prog 400 os)
      #[.agg #[.int .i64 0, .int .i64 0, .slice none 0 0, .slice none 0 0, .slice none 0 0, .slice none 0 0], .agg #[.int .i64 0, .int .i64 0, .slice none 0 0, .slice none 0 0, .slice none 0 0, .slice none 0 0]]
      8 rfl (World.shaped_of_RefB (by kernel_rfl) (by kernel_rfl)) (by kernel_rfl) (by kernel_rfl) (by kernel_rfl) (door_met os _)) ?_
  intro W base args ds gs before hval0 hW _ _ hL _
  have hval : ∀ (j : Nat) t v, Tryz.f12.params[j]? = some t → args[j]? = some v → Value.okWide Tryz.prog W .any base t v := hval0
  have hW' := hW
  obtain ⟨p, q, hA0, hV, rfl, hfz, hnd⟩ := hW
  have hA : DataW.TrodAll enc Tryz.prog W 0 (fun _ => true) true Tryz.f12.params.toList args.toList ds p := hA0
  rw [Tryz.params12] at hA hval
  obtain ⟨v0, v1, d0, d1, p0, p1, rfl, rfl, rfl, h0, h1⟩ := trodAll_two hA
  obtain ⟨rfl, rfl⟩ := trodVars_none hV
  obtain ⟨st1, sp1, c1, n1, k1, w1, r1, hc1, hn1, hk1, hw1⟩ := open_seen (okWide_struct Tryz.underlying77 (hval 0 77 v0 rfl rfl)) h0
  obtain ⟨st2, sp2, c2, n2, k2, w2, r2, hc2, hn2, hk2, hw2⟩ := open_seen (okWide_struct Tryz.underlying77 (hval 1 77 v1 rfl rfl)) h1
  clear hA0 hval0
  simp only [List.append_nil] at hW'
  have hrun := run12 st1 sp1 c1 n1 k1 w1 st2 sp2 c2 n2 k2 w2 hc1 hn1 hk1 hw1 hc2 hn2 hk2 hw2 ⟨0, 0⟩
  refine (calls_pure (xs := [Go.Wn.seen st1 sp1 c1 n1 k1 w1, Go.Wn.seen st2 sp2 c2 n2 k2 w2]) env1_ok rfl hrun rfl fun j c hj => ?_).mono fun e W' ⟨y, X, he, hr, hB⟩ => ?_
  · match j, hj with
    | 0, hj => simp at hj; subst hj; exact r1
    | 1, hj => simp at hj; subst hj; exact r2
  · obtain rfl := RepP.b_inv hr
    exact ⟨_, he, post_two (by rw [Tryz.params12]) rfl rfl (by kernel_rfl) (by kernel_rfl) (of_decide_eq_true (by kernel_rfl)) (of_decide_eq_true (by kernel_rfl)) hW' h0 h1 rfl hB⟩

set_option maxHeartbeats 100000000 in
set_option maxRecDepth 100000 in
theorem traceWithin_facts : joinedFacts Tryz.checked.prog 12 Tryz.f12 Rows.traceWithinSpec Rows.traceWithinRow = true := by
  unfold joinedFacts
  simp only [Bool.and_eq_true]
  repeat' apply And.intro
  all_goals (as_aux_lemma => kernel_rfl)

set_option maxHeartbeats 100000000 in
theorem traceWithin_holds : Rows.TraceWithinSaid :=
  OpenClaim.holds_of_wide 12 Tryz.f12 rfl rfl rfl rfl rfl rfl rfl ⟨rfl, rfl, rfl, rfl, rfl⟩ rfl rfl rfl rfl rfl (by as_aux_lemma => kernel_rfl) Tryz.func12 traceWithin_facts
    (of_decide_eq_true (by as_aux_lemma => kernel_rfl)) (by unfold Func.isWrapper; first | (rw [if_pos (by decide +kernel)]; as_aux_lemma => kernel_rfl) | (rw [if_neg (by decide +kernel)]; exact ⟨rfl, rfl⟩))
    (fun os started H enc _ => traceWithin_lifted os started H enc)

set_option maxHeartbeats 100000000 in
theorem traceWithin_card : Rows.TraceWithinCardSaid :=
  Claim7.holds_tied_plain_at .later [] [.data] true (true, "003608e73737cfbb2398cb29511948d8977aeb09b85c17a0a0912bf49842128a") false
    traceWithin_holds (fun _ h => by cases h) (by as_aux_lemma => kernel_rfl) (fun _ h => by cases h) traceWithin_row_tie rfl ⟨rfl, rfl⟩ (by as_aux_lemma => kernel_rfl) rfl
    (fun f fn hf hfn => by
      obtain rfl : f = 12 := Option.some.inj ((show Tryz.prog.funcNamed "winnower/winnowerlaw15.TraceWithin" = some 12 by as_aux_lemma => kernel_rfl).symm.trans hf) |>.symm
      obtain rfl : fn = Tryz.f12 := (Option.some.inj (Tryz.func12.symm.trans hfn)).symm
      exact ⟨by as_aux_lemma => kernel_rfl, fun j t ht => by
        rw [Tryz.params12] at ht
        have hm : t ∈ [77, 77] := by simpa using Array.mem_of_getElem? ht
        have hall : ([77, 77].all fun u => !Tryz.prog.wantsStandIn u) = true := by as_aux_lemma => kernel_rfl
        exact (show Tryz.prog.wantsStandIn t = false by simpa using List.all_eq_true.1 hall t hm)⟩)
    (by as_aux_lemma => kernel_rfl)
end Go.Proofs.YtjpmhmpiglbioaaGreatDoor
