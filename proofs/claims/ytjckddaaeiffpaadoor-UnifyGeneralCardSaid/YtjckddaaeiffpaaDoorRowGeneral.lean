/- UnifyGeneral: what Unify answers is most general: other binds that make both terms the same do behind the answer's binds what they do by themselves, for every signature, any two rows and any binds. No condition: the full statement (its card is tied to the program's text). -/
import Derived.Test.YtjckddaaeiffpaaDoorZ0
import Derived.Test.YtjckddaaeiffpaaDoorZ3b
import Derived.Test.YtjckddaaeiffpaaDoorRowBase
import Derived.Test.YtjckddaaeiffpaaDoorUnGen
import Derived.Test.YtjckddaaeiffpaaDoorCards
import Derived.Test.YtjckddaaeiffpaaDoorTie
import Derived.OpenShut
namespace Go.Proofs.YtjckddaaeiffpaaDoor.Z
open Go.RowKit Go.Proofs.YtjckddaaeiffpaaDoorW.PrintWords Go.Proofs.YtjckddaaeiffpaaDoorW.PrintLast Go.Proofs.YtjckddaaeiffpaaDoorW.PrintMore
attribute [local go_sem] max2_int min2_int max_two min_two max_three min_three max_four min_four   -- for this text's walks alone
set_option linter.unusedVariables false
set_option linter.unusedSimpArgs false

open Go.ChangeShapes Go.WideShapes Go.ChangeAt
set_option maxRecDepth 100000
def oBind : Opn S30 := Opn.two oInt (Opn.slice 3 8 oInt) k30 (fun x => (x.f0, x.f1))
theorem oBind_at : oBind.At 30 := Opn.two_at rfl (fun p => ⟨⟨p.1, p.2⟩, rfl⟩) Tryd.underlying30 rfl rfl oInt_at oInts_at (by kernel_rfl)
theorem oBinds_at : (Opn.slice 30 32 oBind).At 25 := Opn.slice_at Tryd.underlying25 (by kernel_rfl) (by kernel_rfl) oBind_at z30
/-- Binds. -/
theorem open_binds {H : Type} {enc : TypeId × Value → H} {W : World} {base : Nat} {v : Value} {d : DataW H} {ps : List MemPlace} (hv : Value.okWide Tryd.prog W .any base 25 v) (h : DataW.Trod enc Tryd.prog W 0 (fun _ => true) true 25 v d ps) :
    ∃ (A : Option Addr) (c : Nat) (l : List S30), v = .slice A l.length c ∧ l.length ≤ c ∧ Kd.C k30 W A l.length l ∧ ((∀ n ∈ d.weights Tryd.prog 25, n ≤ 140737488351232) → l.length ≤ 17592186043904 ∧ ∀ x ∈ l, x.f1.length ≤ 17592186043904) := by
  obtain ⟨A, n, c, rfl⟩ := Go.WideShapes.okWide_slice Tryd.underlying25 hv
  obtain ⟨l, rfl, h1, h2, h3, h4, h5⟩ := Opn.arg oBinds_at h
  refine ⟨A, c, l, rfl, h1, h2, fun hw => ?_⟩
  obtain ⟨h6, h7⟩ := h4 _ hw
  refine ⟨by omega, fun x hx => ?_⟩
  have h8 : x.f1.length * 8 ≤ 140737488351232 := (h7 x hx).2.1
  omega
namespace R6G
theorem contract (H : Type) (enc : TypeId × Value → H) (W : World) (base : Nat) (args : Array Value) (ds gs : List (DataW H)) (before : List MemPlace)
    (hval : ∀ (j : Nat) t v, Tryd.f7.params[j]? = some t → args[j]? = some v → Value.okWide Tryd.prog W .any base t v)
    (hW : DataW.Whole enc Tryd.prog Tryd.f7.params.toList Rows.unifyGeneralSpec.vars false W args.toList ds gs before)
    (hsz : (DataW.weightsEach Tryd.prog (Tryd.f7.params.toList ++ Rows.unifyGeneralSpec.plain.varTypes Tryd.prog) (ds ++ gs)).all (· ≤ reachBytes) = true) (hL : laidMetH Tryd.prog laidList W) :
    Calls Tryd.prog 7 args W fun e W' => ∃ v, e = .returned v ∧ Rows.unifyGeneralSpec.post enc Tryd.prog Tryd.f7 false true false false W args v W' := by
  have hW' := hW
  obtain ⟨p, q, hA0, hV, rfl, hfz, hnd⟩ := hW
  have hA : DataW.TrodAll enc Tryd.prog W 0 (fun _ => true) true Tryd.f7.params.toList args.toList ds p := hA0
  rw [Tryd.params7] at hA hval hsz
  obtain ⟨v0, vs0, d0, ds0, p0, q0, hargs, rfl, rfl, h0, r0⟩ := trodAll_cons hA
  obtain ⟨v1, vs1, d1, ds1, p1, q1, rfl, rfl, rfl, h1, r1⟩ := trodAll_cons r0
  obtain ⟨v2, vs2, d2, ds2, p2, q2, rfl, rfl, rfl, h2, r2⟩ := trodAll_cons r1
  obtain ⟨v3, vs3, d3, ds3, p3, q3, rfl, rfl, rfl, h3, r3⟩ := trodAll_cons r2
  obtain ⟨rfl, rfl, rfl⟩ := trodAll_nil r3
  obtain rfl : args = #[v0, v1, v2, v3] := by cases args; simp_all
  obtain ⟨rfl, rfl⟩ := trodVars_none hV
  have lt0 : ∀ x ∈ p0, x.block < W.heap.size := by obtain ⟨m, hm⟩ := h0; exact DataW.trod_lt m _ _ _ hm
  have lt1 : ∀ x ∈ p1, x.block < W.heap.size := by obtain ⟨m, hm⟩ := h1; exact DataW.trod_lt m _ _ _ hm
  have lt2 : ∀ x ∈ p2, x.block < W.heap.size := by obtain ⟨m, hm⟩ := h2; exact DataW.trod_lt m _ _ _ hm
  have lt3 : ∀ x ∈ p3, x.block < W.heap.size := by obtain ⟨m, hm⟩ := h3; exact DataW.trod_lt m _ _ _ hm
  obtain ⟨A0, c0, l0, rfl, hc0, hr0, hw0, _⟩ := open_sig (hval 0 _ v0 rfl rfl) h0
  obtain ⟨A1, c1, l1, rfl, hc1, hr1, _, hw1, _⟩ := open_row (hval 1 _ v1 rfl rfl) h1
  obtain ⟨A2, c2, l2, rfl, hc2, hr2, _, hw2, _⟩ := open_row (hval 2 _ v2 rfl rfl) h2
  obtain ⟨A3, c3, l3, rfl, hc3, hr3, hw3⟩ := open_binds (hval 3 _ v3 rfl rfl) h3
  have hF := (hw0 (weights_arg hsz (j := 0) rfl rfl)).2
  have hl1 := hw1 (weights_arg hsz (j := 1) rfl rfl)
  have hl2 := hw2 (weights_arg hsz (j := 2) rfl rfl)
  obtain ⟨hl3, hlT⟩ := hw3 (weights_arg hsz (j := 3) rfl rfl)
  have hT := tabs_of hL
  obtain ⟨k, hk⟩ := general hF hl1 hl2 hl3 hlT
  refine (lodestonelaw06_UnifyGeneral.calls k A0 c0 l0 A1 c1 l1 A2 c2 l2 A3 c3 l3 true W hr0 hc0 hr1 hc1 hr2 hc2 hr3 hc3 (hk k (Nat.le_refl _)) hT).mono fun e W' ⟨he, bel⟩ => ?_
  subst he
  exact ⟨_, rfl, _, _, _, [], _, [], hW', trodAll_mk1 (shut_bool Tryd.underlying4 _),
    trodAll_cons_mk (Below.trod laidOut (by kernel_rfl) (of_decide_eq_true (by kernel_rfl)) h0 bel lt0) (trodAll_cons_mk (Below.trod laidOut (by kernel_rfl) (of_decide_eq_true (by kernel_rfl)) h1 bel lt1) (trodAll_cons_mk (Below.trod laidOut (by kernel_rfl) (of_decide_eq_true (by kernel_rfl)) h2 bel lt2) (trodAll_cons_mk (Below.trod laidOut (by kernel_rfl) (of_decide_eq_true (by kernel_rfl)) h3 bel lt3) trodAll_mk0))), rfl, bel.frame _, fun h => by cases h⟩
theorem witness_row (os : Os) {H : Type} (enc : TypeId × Value → H) :
    (OpenSpec.ofChange Rows.unifyGeneralSpec).preRow enc Tryd.prog Tryd.f7 Rows.unifyGeneralRow.domain false Rows.unifyGeneralRow.laid ((laidWorld os).forCall (fun _ _ => 0) ⟨#[], #[.slice none 0 0, .slice none 0 0, .slice none 0 0, .slice none 0 0], []⟩).memory #[.slice none 0 0, .slice none 0 0, .slice none 0 0, .slice none 0 0] := by
  have hw : (DataW.whole enc Tryd.prog ((laidWorld os).forCall (fun _ _ => 0) ⟨#[], #[.slice none 0 0, .slice none 0 0, .slice none 0 0, .slice none 0 0], []⟩).memory Tryd.f7.params.toList (OpenSpec.ofChange Rows.unifyGeneralSpec).vars false #[Value.slice none 0 0, .slice none 0 0, .slice none 0 0, .slice none 0 0].toList 8).map (fun x => (x.1, x.2.1)) =
      some ([.nil, .nil, .nil, .nil], []) := by kernel_rfl
  obtain ⟨⟨x1, x2, x3⟩, hx, hx1⟩ := Option.map_eq_some_iff.1 hw
  simp only [Prod.mk.injEq] at hx1
  obtain ⟨rfl, rfl⟩ := hx1
  exact OpenSpec.preRow_of_cond 8 hx (by kernel_rfl) (fun k hk => by cases hk) (by kernel_rfl) (laid_met os _)
theorem lifted (os : Os) (started : os.Started) (H : Type) (enc : TypeId × Value → H) (F : Stop.Interp) :
    ReturnsInHanded {} Tryd.checked os 7 .any ((OpenSpec.ofChange Rows.unifyGeneralSpec).preRow enc Tryd.prog Tryd.f7 Rows.unifyGeneralRow.domain false Rows.unifyGeneralRow.laid) (((OpenSpec.ofChange Rows.unifyGeneralSpec).at F).post enc Tryd.prog Tryd.f7 false true false false) := by
  refine returnsInHanded_of_row (C := Tryd.checked) (s := OpenSpec.ofChange Rows.unifyGeneralSpec) knob_none started (by kernel_rfl) Tryd.func7
    (witness_row_atRef (enc := enc) (C := Tryd.checked) false (laidWorld os) #[.slice none 0 0, .slice none 0 0, .slice none 0 0, .slice none 0 0] rfl (by kernel_rfl) (by kernel_rfl) (by kernel_rfl) (witness_row os enc)) ?_
  intro W base args ds gs before hval hW _ _ hsz hL _ _
  exact contract H enc W base args ds gs before hval hW hsz hL
theorem said : Rows.UnifyGeneralSaid :=
  OpenClaim.holds_of_cond 7 Tryd.f7 rfl rfl rfl rfl rfl rfl rfl ⟨rfl, rfl, rfl, rfl, rfl⟩ rfl rfl rfl rfl rfl (by kernel_rfl) Tryd.func7 (by kernel_rfl)
    (of_decide_eq_true (by kernel_rfl)) (by unfold Func.isWrapper; first | (rw [if_pos (by decide +kernel)]; kernel_rfl) | (rw [if_neg (by decide +kernel)]; exact ⟨rfl, rfl⟩))
    (fun os started H enc _ F => by rw [OpenClaim.pre_eq_preRow]; exact lifted os started H enc F)
theorem plain (f : FuncId) (fn : Func) (hf : Tryd.pinned.checked.prog.funcNamed "lodestone/lodestonelaw06.UnifyGeneral" = some f) (hfn : Tryd.pinned.checked.prog.funcs[f]? = some fn) :
    true = Tryd.pinned.checked.prog.looks [] ∧ ∀ (j : Nat) t, fn.params[j]? = some t → Tryd.pinned.checked.prog.wantsStandIn t = false := by
  obtain rfl : f = 7 := Option.some.inj ((show Tryd.prog.funcNamed "lodestone/lodestonelaw06.UnifyGeneral" = some 7 by kernel_rfl).symm.trans hf) |>.symm
  obtain rfl : fn = Tryd.f7 := (Option.some.inj (Tryd.func7.symm.trans hfn)).symm
  refine ⟨by kernel_rfl, fun j t ht => ?_⟩
  rw [Tryd.params7] at ht
  match j, ht with
  | 0, ht => simp at ht; subst ht; exact (show Tryd.prog.wantsStandIn _ = false by kernel_rfl)
  | 1, ht => simp at ht; subst ht; exact (show Tryd.prog.wantsStandIn _ = false by kernel_rfl)
  | 2, ht => simp at ht; subst ht; exact (show Tryd.prog.wantsStandIn _ = false by kernel_rfl)
  | 3, ht => simp at ht; subst ht; exact (show Tryd.prog.wantsStandIn _ = false by kernel_rfl)
  | j + 4, ht => simp at ht
theorem card : Rows.UnifyGeneralCardSaid :=
  Claim7.holds_tied_plain_at .later [] _ _ _ _ said (fun _ h => by cases h) (by kernel_rfl) (fun _ h => by cases h) unifyGeneral_row_tie rfl ⟨rfl, rfl⟩ (by kernel_rfl) rfl plain (by kernel_rfl)
end R6G
end Go.Proofs.YtjckddaaeiffpaaDoor.Z
namespace Go.Proofs.YtjckddaaeiffpaaDoor
/-- The card, under a short name, for the claim. -/
theorem unifyGeneral_card : Rows.UnifyGeneralCardSaid := Z.R6G.card
end Go.Proofs.YtjckddaaeiffpaaDoor
