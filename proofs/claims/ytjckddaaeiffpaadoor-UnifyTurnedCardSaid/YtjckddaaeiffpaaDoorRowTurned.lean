/- UnifyTurned: unifying is the same either way round, and a term unifies with itself without binds, for every signature and any two rows. No condition: the full statement (its card is tied to the program's text). -/
import Derived.Test.YtjckddaaeiffpaaDoorZ0
import Derived.Test.YtjckddaaeiffpaaDoorZ3c
import Derived.Test.YtjckddaaeiffpaaDoorExtSig
import Derived.Test.YtjckddaaeiffpaaDoorExtTree
import Derived.Test.YtjckddaaeiffpaaDoorPlainSig
import Derived.Test.YtjckddaaeiffpaaDoorPureEv
import Derived.Test.YtjckddaaeiffpaaDoorPureTerm
import Derived.Test.YtjckddaaeiffpaaDoorRowBase
import Derived.Test.YtjckddaaeiffpaaDoorUnShown
import Derived.Test.YtjckddaaeiffpaaDoorUnTheory
import Derived.Test.YtjckddaaeiffpaaDoorUnUnify
import Derived.Test.YtjckddaaeiffpaaDoorCards
import Derived.Test.YtjckddaaeiffpaaDoorTie
import Derived.OpenShut
namespace Go.Proofs.YtjckddaaeiffpaaDoor.Z
open Go.RowKit Go.Proofs.YtjckddaaeiffpaaDoorW.PrintWords Go.Proofs.YtjckddaaeiffpaaDoorW.PrintLast Go.Proofs.YtjckddaaeiffpaaDoorW.PrintMore
attribute [local go_sem] max2_int min2_int max_two min_two max_three min_three max_four min_four   -- for this text's walks alone
set_option linter.unusedVariables false
set_option linter.unusedSimpArgs false

open Go.ChangeShapes Go.WideShapes Go.ChangeAt
set_option maxRecDepth 100000
theorem turned {sig : List S85} {a b : List Int} (hF : sigFine sig) (ha : a.length ≤ 17592186043904) (hb : b.length ≤ 17592186043904) : Ev (fun k => lodestonelaw06_UnifyTurned.f k sig a b) true := by
  unfold lodestonelaw06_UnifyTurned.f
  refine Ev.vbind (show lodestonelaw06_shown.f = some true from rfl) (Ev.pos rfl (Ev.bind (refCheck sig hF a (by omega)) ?_))
  by_cases h1 : chk sig a = 0
  · refine Ev.pos h1 (Ev.bind (refCheck sig hF b (by omega)) ?_)
    by_cases h2 : chk sig b = 0
    · rw [h2]
      have hlo : ∀ c, c ∈ a ++ b → -1048576 ≤ c := fun c hc => by
        rcases List.mem_append.1 hc with hc | hc
        · exact ((chk_ok h1).2.code c hc).1
        · exact ((chk_ok h2).2.code c hc).1
      have hla : ∀ c, c ∈ a ++ a → -1048576 ≤ c := fun c hc => ((chk_ok h1).2.code c (by simpa using hc)).1
      obtain ⟨s1, s2⟩ := unifyV_small (sig := sig) hlo
      have e1 : unifyR sig a b = unifyV sig a b := by rw [unifyR, if_neg (fun h => h h1), if_neg (fun h => h h2)]
      have e2 : unifyR sig b a = unifyV sig a b := by rw [unifyR, if_neg (fun h => h h2), if_neg (fun h => h h1), unifyV_turn hlo]
      have e3 : unifyR sig a a = ([], 0) := unifyR_eq h1 h1 hla (UAns.self sig a)
      have e4 : canV sig a a = true := canV_yes h1 h1 ⟨_, (NMgu.self sig a).uni⟩
      refine Ev.step (fun k => lodestonelaw06_UnifyTurned.j0.eq_2 _ _ _ _ _ k) (Ev.neg (by decide) (Ev.vbind (unify_is hF (by omega) (by omega)) (Ev.vbind (unify_is hF (by omega) (by omega)) (Ev.vbind (unify_is hF (by omega) (by omega)) ?_))))
      rw [e1, e2, e3]
      refine Ev.pos rfl (Ev.pos rfl (Ev.bind (same6 _ (by omega) (fun x hx => by have := s2 x hx; omega)) (Ev.pos rfl (Ev.vbind (can_is hF (by omega) (by omega)) (Ev.vbind (can_is hF (by omega) (by omega)) ?_)))))
      rw [canV_turn]
      refine Ev.pos (by simp) (Ev.vbind (can_is hF (by omega) (by omega)) ?_)
      rw [e4]
      exact Ev.pos rfl (Ev.pos rfl (Ev.now _))
    · rw [show (chk sig b != 0) = true from bne_iff_ne.mpr h2]
      refine Ev.step (fun k => lodestonelaw06_UnifyTurned.j0.eq_2 _ _ _ _ _ k) (Ev.pos rfl (Ev.pos rfl (Ev.vbind (can_is hF (by omega) (by omega)) ?_)))
      rw [canV_bad (fun h => h2 h.2)]
      exact Ev.now _
  · refine Ev.neg h1 ?_
    refine Ev.step (fun k => lodestonelaw06_UnifyTurned.j0.eq_2 _ _ _ _ _ k) (Ev.pos rfl (Ev.pos rfl (Ev.vbind (can_is hF (by omega) (by omega)) ?_)))
    rw [canV_bad (fun h => h1 h.1)]
    exact Ev.now _
namespace R6T
theorem contract (H : Type) (enc : TypeId × Value → H) (W : World) (base : Nat) (args : Array Value) (ds gs : List (DataW H)) (before : List MemPlace)
    (hval : ∀ (j : Nat) t v, Tryd.f6.params[j]? = some t → args[j]? = some v → Value.okWide Tryd.prog W .any base t v)
    (hW : DataW.Whole enc Tryd.prog Tryd.f6.params.toList Rows.unifyTurnedSpec.vars false W args.toList ds gs before)
    (hsz : (DataW.weightsEach Tryd.prog (Tryd.f6.params.toList ++ Rows.unifyTurnedSpec.plain.varTypes Tryd.prog) (ds ++ gs)).all (· ≤ reachBytes) = true) (hL : laidMetH Tryd.prog laidList W) :
    Calls Tryd.prog 6 args W fun e W' => ∃ v, e = .returned v ∧ Rows.unifyTurnedSpec.post enc Tryd.prog Tryd.f6 false true false false W args v W' := by
  have hW' := hW
  obtain ⟨p, q, hA0, hV, rfl, hfz, hnd⟩ := hW
  have hA : DataW.TrodAll enc Tryd.prog W 0 (fun _ => true) true Tryd.f6.params.toList args.toList ds p := hA0
  rw [Tryd.params6] at hA hval hsz
  obtain ⟨v0, vs0, d0, ds0, p0, q0, hargs, rfl, rfl, h0, r0⟩ := trodAll_cons hA
  obtain ⟨v1, vs1, d1, ds1, p1, q1, rfl, rfl, rfl, h1, r1⟩ := trodAll_cons r0
  obtain ⟨v2, vs2, d2, ds2, p2, q2, rfl, rfl, rfl, h2, r2⟩ := trodAll_cons r1
  obtain ⟨rfl, rfl, rfl⟩ := trodAll_nil r2
  obtain rfl : args = #[v0, v1, v2] := by cases args; simp_all
  obtain ⟨rfl, rfl⟩ := trodVars_none hV
  have lt0 : ∀ x ∈ p0, x.block < W.heap.size := by obtain ⟨m, hm⟩ := h0; exact DataW.trod_lt m _ _ _ hm
  have lt1 : ∀ x ∈ p1, x.block < W.heap.size := by obtain ⟨m, hm⟩ := h1; exact DataW.trod_lt m _ _ _ hm
  have lt2 : ∀ x ∈ p2, x.block < W.heap.size := by obtain ⟨m, hm⟩ := h2; exact DataW.trod_lt m _ _ _ hm
  obtain ⟨A0, c0, l0, rfl, hc0, hr0, hw0, _⟩ := open_sig (hval 0 _ v0 rfl rfl) h0
  obtain ⟨A1, c1, l1, rfl, hc1, hr1, _, hw1, _⟩ := open_row (hval 1 _ v1 rfl rfl) h1
  obtain ⟨A2, c2, l2, rfl, hc2, hr2, _, hw2, _⟩ := open_row (hval 2 _ v2 rfl rfl) h2
  have hF := (hw0 (weights_arg hsz (j := 0) rfl rfl)).2
  have hl1 := hw1 (weights_arg hsz (j := 1) rfl rfl)
  have hl2 := hw2 (weights_arg hsz (j := 2) rfl rfl)
  have hT := tabs_of hL
  obtain ⟨k, hk⟩ := turned hF hl1 hl2
  refine (lodestonelaw06_UnifyTurned.calls k A0 c0 l0 A1 c1 l1 A2 c2 l2 true W hr0 hc0 hr1 hc1 hr2 hc2 (hk k (Nat.le_refl _)) hT).mono fun e W' ⟨he, bel⟩ => ?_
  subst he
  exact ⟨_, rfl, _, _, _, [], _, [], hW', trodAll_mk1 (shut_bool Tryd.underlying4 _),
    trodAll_cons_mk (Below.trod laidOut (by kernel_rfl) (of_decide_eq_true (by kernel_rfl)) h0 bel lt0) (trodAll_cons_mk (Below.trod laidOut (by kernel_rfl) (of_decide_eq_true (by kernel_rfl)) h1 bel lt1) (trodAll_cons_mk (Below.trod laidOut (by kernel_rfl) (of_decide_eq_true (by kernel_rfl)) h2 bel lt2) trodAll_mk0)), rfl, bel.frame _, fun h => by cases h⟩
theorem witness_row (os : Os) {H : Type} (enc : TypeId × Value → H) :
    (OpenSpec.ofChange Rows.unifyTurnedSpec).preRow enc Tryd.prog Tryd.f6 Rows.unifyTurnedRow.domain false Rows.unifyTurnedRow.laid ((laidWorld os).forCall (fun _ _ => 0) ⟨#[], #[.slice none 0 0, .slice none 0 0, .slice none 0 0], []⟩).memory #[.slice none 0 0, .slice none 0 0, .slice none 0 0] := by
  have hw : (DataW.whole enc Tryd.prog ((laidWorld os).forCall (fun _ _ => 0) ⟨#[], #[.slice none 0 0, .slice none 0 0, .slice none 0 0], []⟩).memory Tryd.f6.params.toList (OpenSpec.ofChange Rows.unifyTurnedSpec).vars false #[Value.slice none 0 0, .slice none 0 0, .slice none 0 0].toList 8).map (fun x => (x.1, x.2.1)) =
      some ([.nil, .nil, .nil], []) := by kernel_rfl
  obtain ⟨⟨x1, x2, x3⟩, hx, hx1⟩ := Option.map_eq_some_iff.1 hw
  simp only [Prod.mk.injEq] at hx1
  obtain ⟨rfl, rfl⟩ := hx1
  exact OpenSpec.preRow_of_cond 8 hx (by kernel_rfl) (fun k hk => by cases hk) (by kernel_rfl) (laid_met os _)
theorem lifted (os : Os) (started : os.Started) (H : Type) (enc : TypeId × Value → H) (F : Stop.Interp) :
    ReturnsInHanded {} Tryd.checked os 6 .any ((OpenSpec.ofChange Rows.unifyTurnedSpec).preRow enc Tryd.prog Tryd.f6 Rows.unifyTurnedRow.domain false Rows.unifyTurnedRow.laid) (((OpenSpec.ofChange Rows.unifyTurnedSpec).at F).post enc Tryd.prog Tryd.f6 false true false false) := by
  refine returnsInHanded_of_row (C := Tryd.checked) (s := OpenSpec.ofChange Rows.unifyTurnedSpec) knob_none started (by kernel_rfl) Tryd.func6
    (witness_row_atRef (enc := enc) (C := Tryd.checked) false (laidWorld os) #[.slice none 0 0, .slice none 0 0, .slice none 0 0] rfl (by kernel_rfl) (by kernel_rfl) (by kernel_rfl) (witness_row os enc)) ?_
  intro W base args ds gs before hval hW _ _ hsz hL _ _
  exact contract H enc W base args ds gs before hval hW hsz hL
theorem said : Rows.UnifyTurnedSaid :=
  OpenClaim.holds_of_cond 6 Tryd.f6 rfl rfl rfl rfl rfl rfl rfl ⟨rfl, rfl, rfl, rfl, rfl⟩ rfl rfl rfl rfl rfl (by kernel_rfl) Tryd.func6 (by kernel_rfl)
    (of_decide_eq_true (by kernel_rfl)) (by unfold Func.isWrapper; first | (rw [if_pos (by decide +kernel)]; kernel_rfl) | (rw [if_neg (by decide +kernel)]; exact ⟨rfl, rfl⟩))
    (fun os started H enc _ F => by rw [OpenClaim.pre_eq_preRow]; exact lifted os started H enc F)
theorem plain (f : FuncId) (fn : Func) (hf : Tryd.pinned.checked.prog.funcNamed "lodestone/lodestonelaw06.UnifyTurned" = some f) (hfn : Tryd.pinned.checked.prog.funcs[f]? = some fn) :
    true = Tryd.pinned.checked.prog.looks [] ∧ ∀ (j : Nat) t, fn.params[j]? = some t → Tryd.pinned.checked.prog.wantsStandIn t = false := by
  obtain rfl : f = 6 := Option.some.inj ((show Tryd.prog.funcNamed "lodestone/lodestonelaw06.UnifyTurned" = some 6 by kernel_rfl).symm.trans hf) |>.symm
  obtain rfl : fn = Tryd.f6 := (Option.some.inj (Tryd.func6.symm.trans hfn)).symm
  refine ⟨by kernel_rfl, fun j t ht => ?_⟩
  rw [Tryd.params6] at ht
  match j, ht with
  | 0, ht => simp at ht; subst ht; exact (show Tryd.prog.wantsStandIn _ = false by kernel_rfl)
  | 1, ht => simp at ht; subst ht; exact (show Tryd.prog.wantsStandIn _ = false by kernel_rfl)
  | 2, ht => simp at ht; subst ht; exact (show Tryd.prog.wantsStandIn _ = false by kernel_rfl)
  | j + 3, ht => simp at ht
theorem card : Rows.UnifyTurnedCardSaid :=
  Claim7.holds_tied_plain_at .later [] _ _ _ _ said (fun _ h => by cases h) (by kernel_rfl) (fun _ h => by cases h) unifyTurned_row_tie rfl ⟨rfl, rfl⟩ (by kernel_rfl) rfl plain (by kernel_rfl)
end R6T
end Go.Proofs.YtjckddaaeiffpaaDoor.Z
namespace Go.Proofs.YtjckddaaeiffpaaDoor
/-- The card, under a short name, for the claim. -/
theorem unifyTurned_card : Rows.UnifyTurnedCardSaid := Z.R6T.card
end Go.Proofs.YtjckddaaeiffpaaDoor
