/- MatchFinds: a pattern matches just what the document says, with the same binds, for every signature and any two rows. No condition: the full statement (its card is tied to the program's text). -/
import Derived.Test.YtjckddaaeiffpaaDoorZ0
import Derived.Test.YtjckddaaeiffpaaDoorZ0d
import Derived.Test.YtjckddaaeiffpaaDoorZ1c
import Derived.Test.YtjckddaaeiffpaaDoorExtMatch
import Derived.Test.YtjckddaaeiffpaaDoorLawFind5
import Derived.Test.YtjckddaaeiffpaaDoorOpen
import Derived.Test.YtjckddaaeiffpaaDoorPlain5
import Derived.Test.YtjckddaaeiffpaaDoorPureEv
import Derived.Test.YtjckddaaeiffpaaDoorRowBase
import Derived.Test.YtjckddaaeiffpaaDoorCards
import Derived.Test.YtjckddaaeiffpaaDoorTie
import Derived.OpenShut
namespace Go.Proofs.YtjckddaaeiffpaaDoor.Z
open Go.RowKit Go.Proofs.YtjckddaaeiffpaaDoorW.PrintWords Go.Proofs.YtjckddaaeiffpaaDoorW.PrintLast Go.Proofs.YtjckddaaeiffpaaDoorW.PrintMore
attribute [local go_sem] max2_int min2_int max_two min_two max_three min_three max_four min_four   -- for this text's walks alone
set_option linter.unusedVariables false
set_option linter.unusedSimpArgs false

open Go.ChangeShapes Go.WideShapes Go.ChangeAt
set_option maxRecDepth 100000
/-- What the law's parts answer, in plain words. -/
theorem same5_l0 (a b : List S30) (h : a = b) (hm : a.length ≤ 9223372036854775807) (hT : ∀ x ∈ a, x.f1.length ≤ 9223372036854775807) : ∀ (d i : Nat), a.length = i + d → Ev (fun k => lodestonelaw05_same.l0 k a b i) true := by
  subst h
  have row : ∀ (r : List Int), r.length ≤ 9223372036854775807 → Ev (fun k => lodestonelaw05_sameRow.f k r r) true := by
    intro r hr
    have go : ∀ (d i : Nat), r.length = i + d → Ev (fun k => lodestonelaw05_sameRow.l0 k r r i) true := by
      intro d
      induction d with
      | zero => intro i hd; exact Ev.step (fun k => lodestonelaw05_sameRow.l0.eq_2 _ _ _ k) (Ev.neg (by omega) (Ev.now _))
      | succ d ih =>
        intro i hd
        have hi : i < r.length := by omega
        refine Ev.step (fun k => lodestonelaw05_sameRow.l0.eq_2 _ _ _ k) (Ev.pos (by omega) (Ev.pos (by omega) (Ev.pos (by omega) (Ev.pos rfl ?_))))
        rw [w64_succ hi hr]
        exact ih (i + 1) (by omega)
    unfold lodestonelaw05_sameRow.f
    exact Ev.pos rfl (go r.length 0 (by omega))
  intro d
  induction d with
  | zero => intro i hd; exact Ev.step (fun k => lodestonelaw05_same.l0.eq_2 _ _ _ k) (Ev.neg (by omega) (Ev.now _))
  | succ d ih =>
    intro i hd
    have hi : i < a.length := by omega
    refine Ev.step (fun k => lodestonelaw05_same.l0.eq_2 _ _ _ k) (Ev.pos (by omega) (Ev.pos (by omega) (Ev.pos (by omega) ?_)))
    rw [rdT30_get hi]
    refine Ev.bind (row _ (hT _ (List.getElem_mem hi))) (Ev.pos rfl (Ev.pos rfl ?_))
    rw [w64_succ hi hm]
    exact ih (i + 1) (by omega)
theorem same5 (a : List S30) (hm : a.length ≤ 9223372036854775807) (hT : ∀ x ∈ a, x.f1.length ≤ 9223372036854775807) : Ev (fun k => lodestonelaw05_same.f k a a) true := by
  unfold lodestonelaw05_same.f
  exact Ev.pos rfl (same5_l0 a a rfl hm hT a.length 0 (by omega))
theorem sameRowL5 (r : List Int) (hr : r.length ≤ 9223372036854775807) : Ev (fun k => lodestonelaw05_sameRow.f k r r) true := by
  have h := same5_l0 [⟨0, r⟩] [⟨0, r⟩] rfl (by simp) (by intro x hx; rw [List.mem_singleton.1 hx]; exact hr) 1 0 rfl
  have go : ∀ (d i : Nat), r.length = i + d → Ev (fun k => lodestonelaw05_sameRow.l0 k r r i) true := by
    intro d
    induction d with
    | zero => intro i hd; exact Ev.step (fun k => lodestonelaw05_sameRow.l0.eq_2 _ _ _ k) (Ev.neg (by omega) (Ev.now _))
    | succ d ih =>
      intro i hd
      have hi : i < r.length := by omega
      refine Ev.step (fun k => lodestonelaw05_sameRow.l0.eq_2 _ _ _ k) (Ev.pos (by omega) (Ev.pos (by omega) (Ev.pos (by omega) (Ev.pos rfl ?_))))
      rw [w64_succ hi hr]
      exact ih (i + 1) (by omega)
  unfold lodestonelaw05_sameRow.f
  exact Ev.pos rfl (go r.length 0 (by omega))
theorem matchGo_small (sig : List S85) (N : Nat) : ∀ (p t : List Int) (l r : List S30), t.length ≤ N → (∀ x ∈ l, x.f1.length ≤ N) → matchGo sig p t l = some r → ∀ x ∈ r, x.f1.length ≤ N := by
  intro p
  induction p with
  | nil => intro t l r _ hl h; rw [matchGo] at h; obtain rfl := Option.some.inj h; exact hl
  | cons c p ih =>
    intro t l r ht hl h
    rw [matchGo] at h
    split at h
    · split at h
      · exact ih _ _ _ (by rw [List.length_drop]; omega) hl h
      · simp at h
    · split at h
      · refine ih _ _ _ (by rw [List.length_drop]; omega) (fun x hx => ?_) h
        rcases List.mem_append.1 hx with hx | hx
        · exact hl x hx
        · rw [List.mem_singleton.1 hx]
          show (t.take _).length ≤ N
          rw [List.length_take]
          omega
      · split at h
        · exact ih _ _ _ (by rw [List.length_drop]; omega) hl h
        · simp at h
theorem matchGo_len (sig : List S85) : ∀ (p t : List Int) (l r : List S30), matchGo sig p t l = some r → r.length ≤ l.length + p.length := by
  intro p
  induction p with
  | nil => intro t l r h; rw [matchGo] at h; obtain rfl := Option.some.inj h; omega
  | cons c p ih =>
    intro t l r h
    rw [matchGo] at h
    split at h
    · split at h
      · have := ih _ _ _ h; simp only [List.length_cons]; omega
      · simp at h
    · split at h
      · have := ih _ _ _ h; simp only [List.length_append, List.length_cons, List.length_nil] at this ⊢; omega
      · split at h
        · have := ih _ _ _ h; simp only [List.length_cons]; omega
        · simp at h
theorem matchF_small (sig : List S85) (p t : List Int) (N : Nat) (hp : p.length ≤ N) (ht : t.length ≤ N) : (matchF sig p t).1.length ≤ N ∧ ∀ x ∈ (matchF sig p t).1, x.f1.length ≤ N := by
  rw [matchF]
  split
  · split
    · exact ⟨Nat.zero_le _, fun x hx => by cases hx⟩
    · rename_i l hl
      refine ⟨?_, fun x hx => matchGo_small sig N p t [] l ht (fun x hx => by cases hx) hl x ((sortB_perm l).mem_iff.1 hx)⟩
      have := matchGo_len sig p t [] l hl
      rw [show (sortB l, true).1 = sortB l from rfl, (sortB_perm l).length_eq]
      simp at this
      omega
  · exact ⟨Nat.zero_le _, fun x hx => by cases hx⟩
namespace R5
theorem contract (H : Type) (enc : TypeId × Value → H) (W : World) (base : Nat) (args : Array Value) (ds gs : List (DataW H)) (before : List MemPlace)
    (hval : ∀ (j : Nat) t v, Tryd.f3.params[j]? = some t → args[j]? = some v → Value.okWide Tryd.prog W .any base t v)
    (hW : DataW.Whole enc Tryd.prog Tryd.f3.params.toList Rows.matchFindsSpec.vars false W args.toList ds gs before)
    (hsz : (DataW.weightsEach Tryd.prog (Tryd.f3.params.toList ++ Rows.matchFindsSpec.plain.varTypes Tryd.prog) (ds ++ gs)).all (· ≤ reachBytes) = true) (hL : laidMetH Tryd.prog laidList W) :
    Calls Tryd.prog 3 args W fun e W' => ∃ v, e = .returned v ∧ Rows.matchFindsSpec.post enc Tryd.prog Tryd.f3 false true false false W args v W' := by
  have hW' := hW
  obtain ⟨p, q, hA0, hV, rfl, hfz, hnd⟩ := hW
  have hA : DataW.TrodAll enc Tryd.prog W 0 (fun _ => true) true Tryd.f3.params.toList args.toList ds p := hA0
  rw [Tryd.params3] at hA hval hsz
  obtain ⟨v0, vs0, d0, ds0, p0, q0, hargs, rfl, rfl, h0, r0⟩ := trodAll_cons hA
  obtain ⟨v1, vs1, d1, ds1, p1, q1, rfl, rfl, rfl, h1, r1⟩ := trodAll_cons r0
  obtain ⟨v2, vs2, d2, ds2, p2, q2, rfl, rfl, rfl, h2, r2⟩ := trodAll_cons r1
  obtain ⟨rfl, rfl, rfl⟩ := trodAll_nil r2
  obtain rfl : args = #[v0, v1, v2] := by cases args; simp_all
  obtain ⟨rfl, rfl⟩ := trodVars_none hV
  have lt0 : ∀ x ∈ p0, x.block < W.heap.size := by obtain ⟨m, hm⟩ := h0; exact DataW.trod_lt m _ _ _ hm
  have lt1 : ∀ x ∈ p1, x.block < W.heap.size := by obtain ⟨m, hm⟩ := h1; exact DataW.trod_lt m _ _ _ hm
  have lt2 : ∀ x ∈ p2, x.block < W.heap.size := by obtain ⟨m, hm⟩ := h2; exact DataW.trod_lt m _ _ _ hm
  obtain ⟨A0, c0, l0, rfl, hc0, hr0, hw0, _⟩ := open_sig (hval 0 _ v0 rfl rfl) h0
  obtain ⟨A1, c1, l1, rfl, hc1, hr1, _, hw1, _⟩ := open_row (hval 1 _ v1 rfl rfl) h1
  obtain ⟨A2, c2, l2, rfl, hc2, hr2, _, hw2, _⟩ := open_row (hval 2 _ v2 rfl rfl) h2
  have hF := (hw0 (weights_arg hsz (j := 0) rfl rfl)).2
  have hl1 := hw1 (weights_arg hsz (j := 1) rfl rfl)
  have hl2 := hw2 (weights_arg hsz (j := 2) rfl rfl)
  have hT := tabs_of hL
  obtain ⟨hs1, hs2⟩ := matchF_small l0 l1 l2 17592186043904 hl1 hl2
  obtain ⟨k, hk⟩ : ∃ k, lodestoneref05_Match.f k l0 l1 l2 = some (matchF l0 l1 l2) ∧ lodestonelaw05_same.f k (matchF l0 l1 l2).1 (matchF l0 l1 l2).1 = some true ∧ lodestonelaw05_sameRow.f k l1 l1 = some true ∧ lodestonelaw05_sameRow.f k l2 l2 = some true := by
    obtain ⟨K1, e1⟩ := refMatch l0 hF l1 l2 (by omega) (by omega)
    obtain ⟨K2, e2⟩ := same5 (matchF l0 l1 l2).1 (by omega) (fun x hx => by have := hs2 x hx; omega)
    obtain ⟨K3, e3⟩ := sameRowL5 l1 (by omega)
    obtain ⟨K4, e4⟩ := sameRowL5 l2 (by omega)
    exact ⟨K1 + K2 + K3 + K4, e1 _ (by omega), e2 _ (by omega), e3 _ (by omega), e4 _ (by omega)⟩
  refine (find5_calls k A0 c0 l0 A1 c1 l1 A2 c2 l2 (matchF l0 l1 l2).1 (matchF l0 l1 l2).2 W hr0 hc0 hr1 hc1 hr2 hc2 (by rw [match_Match.f, if_pos ⟨hF, by omega, by omega⟩]) hk.1 hk.2.1 hk.2.2.1 hk.2.2.2 hl1 hl2 (by omega) hs2 hT).mono fun e W' ⟨he, bel⟩ => ?_
  subst he
  exact ⟨_, rfl, _, _, _, [], _, [], hW', trodAll_mk1 (shut_bool Tryd.underlying4 _),
    trodAll_cons_mk (Below.trod laidOut (by kernel_rfl) (of_decide_eq_true (by kernel_rfl)) h0 bel lt0) (trodAll_cons_mk (Below.trod laidOut (by kernel_rfl) (of_decide_eq_true (by kernel_rfl)) h1 bel lt1) (trodAll_cons_mk (Below.trod laidOut (by kernel_rfl) (of_decide_eq_true (by kernel_rfl)) h2 bel lt2) trodAll_mk0)), rfl, bel.frame _, fun h => by cases h⟩
theorem witness_row (os : Os) {H : Type} (enc : TypeId × Value → H) :
    (OpenSpec.ofChange Rows.matchFindsSpec).preRow enc Tryd.prog Tryd.f3 Rows.matchFindsRow.domain false Rows.matchFindsRow.laid ((laidWorld os).forCall (fun _ _ => 0) ⟨#[], #[.slice none 0 0, .slice none 0 0, .slice none 0 0], []⟩).memory #[.slice none 0 0, .slice none 0 0, .slice none 0 0] := by
  have hw : (DataW.whole enc Tryd.prog ((laidWorld os).forCall (fun _ _ => 0) ⟨#[], #[.slice none 0 0, .slice none 0 0, .slice none 0 0], []⟩).memory Tryd.f3.params.toList (OpenSpec.ofChange Rows.matchFindsSpec).vars false #[Value.slice none 0 0, .slice none 0 0, .slice none 0 0].toList 8).map (fun x => (x.1, x.2.1)) =
      some ([.nil, .nil, .nil], []) := by kernel_rfl
  obtain ⟨⟨x1, x2, x3⟩, hx, hx1⟩ := Option.map_eq_some_iff.1 hw
  simp only [Prod.mk.injEq] at hx1
  obtain ⟨rfl, rfl⟩ := hx1
  exact OpenSpec.preRow_of_cond 8 hx (by kernel_rfl) (fun k hk => by cases hk) (by kernel_rfl) (laid_met os _)
theorem lifted (os : Os) (started : os.Started) (H : Type) (enc : TypeId × Value → H) (F : Stop.Interp) :
    ReturnsInHanded {} Tryd.checked os 3 .any ((OpenSpec.ofChange Rows.matchFindsSpec).preRow enc Tryd.prog Tryd.f3 Rows.matchFindsRow.domain false Rows.matchFindsRow.laid) (((OpenSpec.ofChange Rows.matchFindsSpec).at F).post enc Tryd.prog Tryd.f3 false true false false) := by
  refine returnsInHanded_of_row (C := Tryd.checked) (s := OpenSpec.ofChange Rows.matchFindsSpec) own started (by kernel_rfl) Tryd.func3
    (witness_row_atRef (enc := enc) (C := Tryd.checked) false (laidWorld os) #[.slice none 0 0, .slice none 0 0, .slice none 0 0] rfl (by kernel_rfl) (by kernel_rfl) (by kernel_rfl) (witness_row os enc)) ?_
  intro W base args ds gs before hval hW _ _ hsz hL _ _
  exact contract H enc W base args ds gs before hval hW hsz hL
theorem said : Rows.MatchFindsSaid :=
  OpenClaim.holds_of_cond 3 Tryd.f3 rfl rfl rfl rfl rfl rfl rfl ⟨rfl, rfl, rfl, rfl, rfl⟩ rfl rfl rfl rfl rfl (by kernel_rfl) Tryd.func3 (by kernel_rfl)
    (of_decide_eq_true (by kernel_rfl)) (by unfold Func.isWrapper; first | (rw [if_pos (by decide +kernel)]; kernel_rfl) | (rw [if_neg (by decide +kernel)]; exact ⟨rfl, rfl⟩))
    (fun os started H enc _ F => by rw [OpenClaim.pre_eq_preRow]; exact lifted os started H enc F)
theorem plain (f : FuncId) (fn : Func) (hf : Tryd.pinned.checked.prog.funcNamed "lodestone/lodestonelaw05.MatchFinds" = some f) (hfn : Tryd.pinned.checked.prog.funcs[f]? = some fn) :
    true = Tryd.pinned.checked.prog.looks [] ∧ ∀ (j : Nat) t, fn.params[j]? = some t → Tryd.pinned.checked.prog.wantsStandIn t = false := by
  obtain rfl : f = 3 := Option.some.inj ((show Tryd.prog.funcNamed "lodestone/lodestonelaw05.MatchFinds" = some 3 by kernel_rfl).symm.trans hf) |>.symm
  obtain rfl : fn = Tryd.f3 := (Option.some.inj (Tryd.func3.symm.trans hfn)).symm
  refine ⟨by kernel_rfl, fun j t ht => ?_⟩
  rw [Tryd.params3] at ht
  match j, ht with
  | 0, ht => simp at ht; subst ht; exact (show Tryd.prog.wantsStandIn _ = false by kernel_rfl)
  | 1, ht => simp at ht; subst ht; exact (show Tryd.prog.wantsStandIn _ = false by kernel_rfl)
  | 2, ht => simp at ht; subst ht; exact (show Tryd.prog.wantsStandIn _ = false by kernel_rfl)
  | j + 3, ht => simp at ht
theorem card : Rows.MatchFindsCardSaid :=
  Claim7.holds_tied_plain_at .later [] _ _ _ _ said (fun _ h => by cases h) (by kernel_rfl) (fun _ h => by cases h) matchFinds_row_tie rfl ⟨rfl, rfl⟩ (by kernel_rfl) rfl plain (by kernel_rfl)
end R5
end Go.Proofs.YtjckddaaeiffpaaDoor.Z
namespace Go.Proofs.YtjckddaaeiffpaaDoor
/-- The card, under a short name, for the claim. -/
theorem matchFinds_card : Rows.MatchFindsCardSaid := Z.R5.card
end Go.Proofs.YtjckddaaeiffpaaDoor
