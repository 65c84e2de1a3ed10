/- (subst.Apply$1), (subst.laid): binds laid into a row. What subst.Check says, in plain words. (subst.Apply): a given function of the print: binds laid into a row. -/
import Derived.Test.YtjckddaaeiffpaaDoorZ0
import Derived.Test.YtjckddaaeiffpaaDoorZ1b
import Derived.Test.YtjckddaaeiffpaaDoorExtCheckSig
import Derived.Test.YtjckddaaeiffpaaDoorExtMap
import Derived.Test.YtjckddaaeiffpaaDoorExtMatch
import Derived.Test.YtjckddaaeiffpaaDoorExtName
import Derived.Test.YtjckddaaeiffpaaDoorExtSig
import Derived.Test.YtjckddaaeiffpaaDoorExtTree
import Derived.Test.YtjckddaaeiffpaaDoorLits
import Derived.Test.YtjckddaaeiffpaaDoorPureEv
import Derived.Test.YtjckddaaeiffpaaDoorPureTerm
import Derived.Test.YtjckddaaeiffpaaDoorUnShown
import Derived.Test.YtjckddaaeiffpaaDoorUnTheory
import Derived.Outline
namespace Go.Proofs.YtjckddaaeiffpaaDoor.Z
open Go.RowKit Go.Proofs.YtjckddaaeiffpaaDoorW.PrintWords Go.Proofs.YtjckddaaeiffpaaDoorW.PrintLast Go.Proofs.YtjckddaaeiffpaaDoorW.PrintMore
attribute [local go_sem] max2_int min2_int max_two min_two max_three min_three max_four min_four   -- for this text's walks alone
set_option linter.unusedVariables false
set_option linter.unusedSimpArgs false

section
/-- What binds make of a code. -/
def subOf (s : List S30) (c : Int) : List Int := (lookB s (-1 - c)).getD [c]
theorem zero_bind (w : World) : (zeroValue 30).run Tryd.prog w = .ok (.agg #[.int .i64 0, .slice none 0 0]) w := by kernel_rfl
def Became (T : List Int) (W : World) (e : Ending) (w' : World) : Prop := ∃ A' c', e = .returned (.slice A' T.length c') ∧ T.length ≤ c' ∧ Kd.C (Kd.int .i64) w' A' T.length T ∧ Below W.heap.size W w'
theorem becomes_calls (Bm n q : Nat) (m : Int → Option Value) (W : World) (c : Int) (T : List Int) (hwf : (Lit.int .i64 c).wf = true) (hq : W.heap[q]? = some (.cells #[.map (some Bm)] 80 (0, 0))) (hM : MapI W Bm n m)
    (hm : (m c = none ∧ T = [c]) ∨ ∃ v A cp, m c = some (.agg #[.int .i64 v, .slice A T.length cp]) ∧ T.length ≤ cp ∧ Kd.C (Kd.int .i64) W A T.length T) :
    Calls Tryd.prog 51 #[.int .i64 c, .pointer (some ⟨q, 0, none⟩)] W (Became T W) := by
  have hq0 := (blk_cell hq 0).trans rfl
  have hu30 := Tryd.underlying30
  have hz := zero_bind
  rcases hm with ⟨hm, rfl⟩ | ⟨v, A, cp, hm, hcp, hC⟩
  · go_enter Tryd.func51, Tryd.ntmps51
    go_wp2_with (first | (at_lookup; refine wpList_lookup_miss rfl _ _ 80 30 rfl Tryd.underlying80 (hz _) Bm n m rfl hM c rfl hwf hm ?_))
    go_ret
    exact ⟨_, _, rfl, Nat.le_refl _, lit_C [c] (blk_new2 _ _ _) (by simp), below_alloc (below_alloc (Below.refl _ _) _) _⟩
  · have HC := Aside0.mk hC
    generalize htn : T.length = tn at *
    have HTN := Aside0.mk htn
    clear htn
    go_enter Tryd.func51, Tryd.ntmps51
    go_wp2_with (first | (at_lookup; refine wpList_lookup_hit rfl _ _ 80 30 rfl Tryd.underlying80 (hz _) Bm n m rfl hM c rfl hwf _ hm ?_))
    go_ret
    have htn := HTN.out
    subst htn
    exact ⟨_, _, rfl, hcp, Kd.C_below HC.out (below_alloc (Below.refl _ _) _), below_alloc (Below.refl _ _) _⟩
/-- The row so far, and what is still to be laid. -/
def layF (θ : Int → List Int) : List Int → List Int → List Int × Int
  | out, [] => (out, 0)
  | out, c :: r => if ((if c < 0 then θ c else [c]).length : Int) > 512 - out.length then ([], 2) else layF θ (out ++ (if c < 0 then θ c else [c])) r
theorem layF_is (θ : Int → List Int) : ∀ (t out : List Int), out.length ≤ 512 → layF θ out t = if (out ++ app θ t).length ≤ 512 then (out ++ app θ t, 0) else ([], 2) := by
  intro t
  induction t with
  | nil => intro out h; rw [layF, app_nil, List.append_nil, if_pos h]
  | cons c r ih =>
    intro out h
    rw [layF, app_cons]
    generalize (if c < 0 then θ c else [c]) = p
    by_cases hp : (p.length : Int) > 512 - out.length
    · rw [if_pos hp, if_neg (by simp only [List.length_append]; omega)]
    · rw [if_neg hp, ih _ (by rw [List.length_append]; omega), List.append_assoc]
/-- What the map has of the variables that stand in a row. -/
def Told (θ : Int → List Int) (m : Int → Option Value) (w : World) (c : Int) : Prop :=
  (m c = none ∧ θ c = [c]) ∨ ∃ v A cp, m c = some (.agg #[.int .i64 v, .slice A (θ c).length cp]) ∧ (θ c).length ≤ cp ∧ Kd.C (Kd.int .i64) w A (θ c).length (θ c)
theorem Told.below {θ : Int → List Int} {m : Int → Option Value} {w w1 : World} {c : Int} (h : Told θ m w c) (hb : Below w.heap.size w w1) : Told θ m w1 c := by
  rcases h with h | ⟨v, A, cp, h1, h2, h3⟩
  · exact .inl h
  · exact .inr ⟨v, A, cp, h1, h2, Kd.C_below h3 hb⟩
set_option maxHeartbeats 4000000 in
set_option maxRecDepth 100000 in
theorem laid_calls (θ : Int → List Int) (Bm n q : Nat) (m : Int → Option Value) (w : World) (A : Option Addr) (cc : Nat) (t : List Int) (hC : Kd.C (Kd.int .i64) w A t.length t) (hcap : t.length ≤ cc) (hl : t.length ≤ 17592186044416) (hq : w.heap[q]? = some (.cells #[.map (some Bm)] 80 (0, 0))) (hM : MapI w Bm n m)
    (hm : ∀ c, c ∈ t → c < 0 → Told θ m w c ∧ (θ c).length ≤ 17592186044416) (hwf : ∀ c, c ∈ t → (Lit.int .i64 c).wf = true) :
    Calls Tryd.prog 50 #[.slice A t.length cc, .func (.func 51) #[] #[.pointer (some ⟨q, 0, none⟩)]] w fun e w' => ∃ v, e = .returned (.tuple #[v, .int .i64 (layF θ [] t).2]) ∧ (Kd.int .i64).R 3 w' w.heap.size (fun _ => True) v (layF θ [] t).1 ∧ Below w.heap.size w w' := by
  have HC := Aside0.mk hC
  have HQ := Aside0.mk hq
  have HM := Aside0.mk hM
  have Hm := Aside0.mk hm
  have HWF := Aside0.mk hwf
  have hmf : ∀ (fn : Fn) (first cap : Array Value) (w : World), (Instr.makeFunc fn first cap).run Tryd.prog w = .ok (.func fn first cap) w := fun _ _ _ _ => rfl
  have hgq := blk_lt hq
  have hgm := hM.lt
  clear hC hq hM hm hwf
  go_enter Tryd.func50, Tryd.ntmps50
  go_wp2_with fail
  go_loopg [6, 12] (t.length + 1) (fun kq v6 v12 wx => ∃ (i : Nat) (out : List Int), v12 = .int .i64 i ∧ kq + i = t.length + 1 ∧ i ≤ t.length ∧ out.length ≤ 512 ∧ layF θ [] t = layF θ out (t.drop i) ∧ (Kd.int .i64).R 3 wx w.heap.size (fun _ => True) v6 out ∧ Below w.heap.size w wx)
  case atStart => exact ⟨0, [], rfl, by omega, by omega, by simp, rfl, Kd.R_nil _ _ _ _ _, Below.refl _ _⟩
  case round =>
    obtain ⟨i, out, rfl, hkq, hile, hol, hF, hR, hbr⟩ := hrel
    obtain ⟨A6, c6, rfl⟩ := Kd.R_slice hR
    have HF := Aside0.mk hF
    have HR := Aside0.mk hR
    have HBR := Aside0.mk hbr
    clear hF hR hbr
    by_cases hi : i < t.length
    · obtain ⟨k1, rfl⟩ : ∃ k1, gk = k1 + 1 := ⟨gk - 1, by omega⟩
      obtain ⟨ad, e, hx⟩ := at_L_int (Kd.C_below HC.out HBR.out) (i : Int) (by omega) (by omega)
      subst e
      rw [Int.toNat_natCast, rd_get hi] at hx
      have pa : ((0 : Int) ≤ (i : Int)) = True := eq_true (by omega)
      have qa : ((i : Int) < (t.length : Int)) = True := eq_true (by omega)
      have hmem : t[i] ∈ t := List.getElem_mem hi
      have hwf := HWF.out _ hmem
      have hF := HF.out
      rw [List.drop_eq_getElem_cons hi, layF] at hF
      have hw1 : IntKind.i64.wrap (512 - (out.length : Int)) = 512 - (out.length : Int) := by rw [IntKind.wrap_i64]; omega
      by_cases hc : t[i] < 0
      · obtain ⟨hT, hTl⟩ := Hm.out _ hmem hc
        rw [if_pos hc] at hF
        have hb1 : Below w.heap.size w (wr.alloc (.cells #[.int .i64 t[i]] 3)) := below_alloc HBR.out _
        have cB := becomes_calls Bm n q m (wr.alloc (.cells #[.int .i64 t[i]] 3)) t[i] (θ t[i]) hwf ((hb1.block q hgq).trans HQ.out) (HM.out.step (hb1.block Bm hgm)) (hT.below hb1)
        have CB := Aside0.mk cB
        have HFF := Aside0.mk hF
        have Hb1 := Aside0.mk hb1
        generalize θ t[i] = T at *
        generalize t[i] = c at *
        clear cB hT hF hb1 hmem
        go_wp2_with fail
        refine CB.out.mono ?_
        rintro e w3 ⟨A3, c3, rfl, hc3, hC3, hb3⟩
        have HC3 := Aside0.mk hC3
        have HB3 := Aside0.mk (below_step Hb1.out hb3)
        have HR3 := Aside0.mk (Kd.R_below (Kd.R_alloc HR.out (.cells #[.int .i64 c] 3)) hb3)
        clear hC3 hb3 CB
        by_cases hbig : (T.length : Int) > 512 - out.length
        · have hF := HFF.out
          rw [if_pos hbig] at hF
          have HF2 := Aside0.mk hF
          clear hF
          go_wp2_with fail
          go_ret2
          rw [HF2.out]
          exact ⟨_, rfl, Kd.R_nil _ _ _ _ _, HB3.out⟩
        · have hF := HFF.out
          rw [if_neg hbig] at hF
          have HF2 := Aside0.mk hF
          clear hF
          go_wp2_with (first | (at_builtin; refine Kd.R_append_row (Value.int .i64) (0 : Int) (h1 := fun _ => rfl) (w0 := w) w.heap.size rfl _ _ 23 3 (.int .i64 0) 8 rfl Tryd.underlying23 info3 rfl (by decide) _ out T A3 T.length c3 (fun _ => True) rfl rfl (fun _ _ => trivial) ?aO ?aR ?aB ?aS ?aL ?_))
          case aO => exact HR3.out
          case aR => exact HC3.out
          case aB => exact HB3.out
          case aS => exact HB3.out.size
          case aL => omega
          intro v5 w5 hR5 hb5 _ _
          have HR5 := Aside0.mk hR5
          have HB5 := Aside0.mk hb5
          clear hR5 hb5
          go_wp2_with fail
          go_roundg k1
          case measure => omega
          case rel => exact ⟨i + 1, out ++ T, by go_num, by omega, by omega, by rw [List.length_append]; omega, HF2.out, HR5.out, HB5.out⟩
      · rw [if_neg hc] at hF
        have hb1 : Below w.heap.size w (wr.alloc (.cells #[.int .i64 t[i]] 3)) := below_alloc HBR.out _
        have HC3 := Aside0.mk (lit_C (W := wr.alloc (.cells #[.int .i64 t[i]] 3)) [t[i]] (blk_new _ _) (by simp))
        have HB3 := Aside0.mk hb1
        have HR3 := Aside0.mk (Kd.R_alloc HR.out (.cells #[.int .i64 t[i]] 3))
        have HFF := Aside0.mk hF
        generalize t[i] = c at *
        clear hF hb1 hmem
        by_cases hbig : (1 : Int) > 512 - out.length
        · have hF := HFF.out
          rw [if_pos (show ((([c] : List Int).length : Nat) : Int) > 512 - out.length from hbig)] at hF
          have HF2 := Aside0.mk hF
          clear hF
          go_wp2_with fail
          go_ret2
          rw [HF2.out]
          exact ⟨_, rfl, Kd.R_nil _ _ _ _ _, HB3.out⟩
        · have hF := HFF.out
          rw [if_neg (show ¬ ((([c] : List Int).length : Nat) : Int) > 512 - out.length from hbig)] at hF
          have HF2 := Aside0.mk hF
          clear hF
          go_wp2_with (first | (at_builtin; refine Kd.R_append_row (Value.int .i64) (0 : Int) (h1 := fun _ => rfl) (w0 := w) w.heap.size rfl _ _ 23 3 (.int .i64 0) 8 rfl Tryd.underlying23 info3 rfl (by decide) _ out [c] (some ⟨wr.heap.size, 0, none⟩) 1 1 (fun _ => True) rfl rfl (fun _ _ => trivial) ?bO ?bR ?bB ?bS ?bL ?_))
          case bO => exact HR3.out
          case bR => exact HC3.out
          case bB => exact HB3.out
          case bS => have := HB3.out.size; rw [alloc_size] at this; exact this
          case bL => omega
          intro v5 w5 hR5 hb5 _ _
          have HR5 := Aside0.mk hR5
          have HB5 := Aside0.mk hb5
          clear hR5 hb5
          go_wp2_with fail
          go_roundg k1
          case measure => omega
          case rel => exact ⟨i + 1, out ++ [c], by go_num, by omega, by omega, by rw [List.length_append]; simp only [List.length_cons, List.length_nil]; omega, HF2.out, HR5.out, HB5.out⟩
    · obtain rfl : i = t.length := by omega
      have hF := HF.out
      rw [List.drop_length, layF] at hF
      have HF2 := Aside0.mk hF
      clear hF
      go_wp2_with fail
      go_ret2
      rw [HF2.out]
      exact ⟨_, rfl, HR.out, HBR.out⟩
end
section
def badS (sig : List S85) (s : List S30) (i : Nat) : Int :=
  if (rd_T30 s (i : Int)).f0 < 0 ∨ (rd_T30 s (i : Int)).f0 ≥ 1048576 then 40
  else if 0 < i ∧ (rd_T30 s (i : Int)).f0 ≤ (rd_T30 s ((i - 1 : Nat) : Int)).f0 then 41 else chk sig (rd_T30 s (i : Int)).f1
def goS (sig : List S85) (s : List S30) : Nat → Nat → Int
  | 0, _ => 0
  | d + 1, i => if badS sig s i = 0 then goS sig s d (i + 1) else badS sig s i
def checkS (sig : List S85) (s : List S30) : Int := if sigErr sig = 0 then goS sig s s.length 0 else sigErr sig
theorem check_j2 {sig : List S85} {s : List S30} (hF : sigFine sig) (hs : s.length ≤ 17592186044416) (hT : ∀ x ∈ s, x.f1.length ≤ 17592186044416) {d i : Nat} (hd : s.length = i + (d + 1)) (ih : Ev (fun k => subst_Check.l0 k sig s s (s.length : Int) ((i + 1 : Nat) : Int)) (goS sig s d (i + 1))) (b : Bool) (f : Int) :
    Ev (fun k => subst_Check.j2 k sig s s (s.length : Int) (i : Int) b f (rd_T30 s (i : Int)).f1) (if b = true then 41 else if chk sig (rd_T30 s (i : Int)).f1 = 0 then goS sig s d (i + 1) else chk sig (rd_T30 s (i : Int)).f1) := by
  have hi : i < s.length := by omega
  refine Ev.step (fun k => subst_Check.j2.eq_2 _ _ _ _ _ _ _ _ k) ?_
  by_cases hb : b = true
  · rw [if_pos hb]
    exact Ev.pos hb (Ev.now _)
  · rw [if_neg hb]
    refine Ev.neg hb (Ev.vbind (show term_Check.f sig _ = some (chk sig (rd_T30 s (i : Int)).f1) from ?_) ?_)
    · have hl : (rd_T30 s (i : Int)).f1.length ≤ 17592186044416 := by
        rw [rdT30_get hi]
        exact hT _ (List.getElem_mem hi)
      rw [term_Check.f, if_pos ⟨hF, hl⟩]
    · by_cases hc : chk sig (rd_T30 s (i : Int)).f1 = 0
      · rw [if_pos hc]
        refine Ev.pos hc ?_
        rw [w64_succ hi (by omega)]
        exact ih
      · rw [if_neg hc]
        exact Ev.neg hc (Ev.now _)
theorem check_l0 {sig : List S85} {s : List S30} (hF : sigFine sig) (hs : s.length ≤ 17592186044416) (hT : ∀ x ∈ s, x.f1.length ≤ 17592186044416) : ∀ (d i : Nat), s.length = i + d → Ev (fun k => subst_Check.l0 k sig s s (s.length : Int) (i : Int)) (goS sig s d i) := by
  intro d
  induction d with
  | zero => intro i hd; exact Ev.step (fun k => subst_Check.l0.eq_2 _ _ _ _ _ k) (Ev.neg (by omega) (Ev.now _))
  | succ d ih =>
    intro i hd
    have hi : i < s.length := by omega
    have H2 := check_j2 hF hs hT hd (ih (i + 1) (by omega))
    refine Ev.step (fun k => subst_Check.l0.eq_2 _ _ _ _ _ k) (Ev.pos (by omega) (Ev.pos (by omega) (Ev.pos (by omega) ?_)))
    by_cases h0 : (rd_T30 s (i : Int)).f0 < 0
    · refine Ev.pos h0 (Ev.step (fun k => subst_Check.j1.eq_2 _ _ _ _ _ _ _ _ _ k) (Ev.pos rfl (Ev.to (Ev.now _) ?_)))
      have hb : badS sig s i = 40 := by rw [badS, if_pos (.inl h0)]
      rw [goS, if_neg (by rw [hb]; decide), hb]
    · refine Ev.neg h0 ?_
      by_cases h1 : (rd_T30 s (i : Int)).f0 ≥ 1048576
      · refine Ev.step (fun k => subst_Check.j1.eq_2 _ _ _ _ _ _ _ _ _ k) (Ev.pos (decide_eq_true h1) (Ev.to (Ev.now _) ?_))
        have hb : badS sig s i = 40 := by rw [badS, if_pos (.inr h1)]
        rw [goS, if_neg (by rw [hb]; decide), hb]
      · refine Ev.step (fun k => subst_Check.j1.eq_2 _ _ _ _ _ _ _ _ _ k) (Ev.neg (by rw [decide_eq_false h1]; decide) ?_)
        have hor : ¬ ((rd_T30 s (i : Int)).f0 < 0 ∨ (rd_T30 s (i : Int)).f0 ≥ 1048576) := by omega
        by_cases hp : 0 < i
        · have e1 : wrap64 ((i : Int) - 1) = ((i - 1 : Nat) : Int) := by rw [w64' (by omega) (by omega)]; omega
          refine Ev.pos (by omega) (Ev.pos (by rw [e1]; omega) (Ev.pos (by rw [e1]; omega) ?_))
          rw [e1]
          refine Ev.to (H2 _ _) ?_
          by_cases h2 : (rd_T30 s (i : Int)).f0 ≤ (rd_T30 s ((i - 1 : Nat) : Int)).f0
          · have hb : badS sig s i = 41 := by rw [badS, if_neg hor, if_pos ⟨hp, h2⟩]
            rw [if_pos (decide_eq_true h2), goS, if_neg (by rw [hb]; decide), hb]
          · have hb : badS sig s i = chk sig (rd_T30 s (i : Int)).f1 := by rw [badS, if_neg hor, if_neg (fun h => h2 h.2)]
            rw [if_neg (by rw [decide_eq_false h2]; decide), goS, hb]
        · refine Ev.neg (by omega) (Ev.to (H2 _ _) ?_)
          have hb : badS sig s i = chk sig (rd_T30 s (i : Int)).f1 := by rw [badS, if_neg hor, if_neg (fun h => hp h.1)]
          rw [if_neg (by decide), goS, hb]
theorem check_is {sig : List S85} {s : List S30} (hF : sigFine sig) (hs : s.length ≤ 17592186044416) (hT : ∀ x ∈ s, x.f1.length ≤ 17592186044416) : Ev (fun k => subst_Check.f k sig s) (checkS sig s) := by
  unfold subst_Check.f checkS
  refine Ev.vbind (show term_CheckSig.f sig = some (sigErr sig) by rw [term_CheckSig.f, if_pos hF]) ?_
  by_cases h : sigErr sig = 0
  · rw [if_pos h]
    exact Ev.pos h (check_l0 hF hs hT s.length 0 (by omega))
  · rw [if_neg h]
    exact Ev.neg h (Ev.now _)
theorem goS_iff {sig : List S85} {s : List S30} : ∀ (d i : Nat), goS sig s d i = 0 ↔ ∀ j, i ≤ j → j < i + d → badS sig s j = 0 := by
  intro d
  induction d with
  | zero => intro i; exact ⟨fun _ j h1 h2 => by omega, fun _ => rfl⟩
  | succ d ih =>
    intro i
    rw [goS]
    by_cases h : badS sig s i = 0
    · rw [if_pos h, ih (i + 1)]
      constructor
      · intro hh j h1 h2
        by_cases e : j = i
        · rw [e]; exact h
        · exact hh j (by omega) (by omega)
      · intro hh j h1 h2
        exact hh j (by omega) (by omega)
    · rw [if_neg h]
      exact ⟨fun h' => absurd h' h, fun hh => absurd (hh i (Nat.le_refl _) (by omega)) h⟩
/-- What holds of binds that are right. -/
structure SubFine (sig : List S85) (s : List S30) : Prop where
  sg : sigErr sig = 0
  num : ∀ x, x ∈ s → 0 ≤ x.f0 ∧ x.f0 < 1048576
  ord : s.Pairwise (fun x y => x.f0 < y.f0)
  trm : ∀ x, x ∈ s → chk sig x.f1 = 0
theorem checkS_fine {sig : List S85} {s : List S30} : checkS sig s = 0 ↔ SubFine sig s := by
  unfold checkS
  by_cases hg : sigErr sig = 0
  · rw [if_pos hg, goS_iff]
    constructor
    · intro h
      have key : ∀ j (hj : j < s.length), 0 ≤ s[j].f0 ∧ s[j].f0 < 1048576 ∧ chk sig s[j].f1 = 0 ∧ ∀ (h : 0 < j), s[j - 1].f0 < s[j].f0 := fun j hj => by
        have := h j (by omega) (by omega)
        rw [badS] at this
        split at this
        · cases this
        · rename_i h1
          split at this
          · cases this
          · rename_i h2
            rw [rdT30_get hj] at this h1 h2
            refine ⟨by omega, by omega, this, fun hp => ?_⟩
            rw [rdT30_get (show j - 1 < s.length by omega)] at h2
            have : ¬ s[j].f0 ≤ s[j - 1].f0 := fun h3 => h2 ⟨hp, h3⟩
            omega
      refine ⟨hg, fun x hx => ?_, ?_, fun x hx => ?_⟩
      · obtain ⟨j, hj, rfl⟩ := List.getElem_of_mem hx
        exact ⟨(key j hj).1, (key j hj).2.1⟩
      · rw [List.pairwise_iff_getElem]
        intro a b ha hb hab
        have : ∀ n, ∀ (hn : a + (n + 1) < s.length), s[a].f0 < s[a + (n + 1)].f0 := by
          intro n
          induction n with
          | zero => intro hn; exact (key (a + 1) hn).2.2.2 (by omega)
          | succ n ih =>
            intro hn
            have h1 := ih (by omega)
            have h2 := (key (a + (n + 1 + 1)) hn).2.2.2 (by omega)
            have e : a + (n + 1 + 1) - 1 = a + (n + 1) := by omega
            simp only [e] at h2
            omega
        have h3 := this (b - a - 1) (by omega)
        have e : a + (b - a - 1 + 1) = b := by omega
        simp only [e] at h3
        exact h3
      · obtain ⟨j, hj, rfl⟩ := List.getElem_of_mem hx
        exact (key j hj).2.2.1
    · intro h j _ hj
      have hj : j < s.length := by omega
      have hn := h.num _ (List.getElem_mem hj)
      rw [badS, rdT30_get hj, if_neg (by omega), if_neg (fun hh => ?_)]
      · exact h.trm _ (List.getElem_mem hj)
      · obtain ⟨hp, hh⟩ := hh
        rw [rdT30_get (show j - 1 < s.length by omega)] at hh
        have := List.pairwise_iff_getElem.1 h.ord (j - 1) j (by omega) hj (by omega)
        omega
  · rw [if_neg hg]
    exact ⟨fun h => absurd h hg, fun h => absurd h.sg hg⟩
end
section
noncomputable def applyV (sig : List S85) (s : List S30) (t : List Int) : List Int × Int := if checkS sig s ≠ 0 then ([], checkS sig s) else if chk sig t ≠ 0 then ([], chk sig t) else layF (subOf s) [] t
def applyFine (sig : List S85) (s : List S30) (t : List Int) : Prop := sigFine sig ∧ s.length ≤ 17592186044416 ∧ (∀ x ∈ s, x.f1.length ≤ 17592186044416) ∧ t.length ≤ 17592186044416
noncomputable def subst_Apply.f (l0 : List S85) (l1 : List S30) (l2 : List Int) : Option (List Int × Int) := open Classical in if applyFine l0 l1 l2 then some (applyV l0 l1 l2) else none
theorem make_hint (n : Nat) (w : World) : (Instr.makeMap 80 (some (.int .i64 (n : Int)))).run Tryd.prog w = .ok (.map (some w.heap.size)) (w.alloc (.map #[] 0)) := by
  simp [Instr.makeMap, run_underlying Tryd.underlying80, asInt, asIntOf]
/-- What the map has after some binds. -/
def TellS (l : List S30) (m : Int → Option Value) (w : World) : Prop := ∀ v : Int, (lookB l v = none → m (-1 - v) = none) ∧ ∀ T, lookB l v = some T → ∃ A cp, m (-1 - v) = some (.agg #[.int .i64 v, .slice A T.length cp]) ∧ T.length ≤ cp ∧ Kd.C (Kd.int .i64) w A T.length T
theorem TellS.nil (w : World) : TellS [] (fun _ => none) w := fun v => ⟨fun _ => rfl, fun T h => by simp [lookB] at h⟩
theorem TellS.push {l : List S30} {m : Int → Option Value} {w : World} (h : TellS l m w) {x : S30} (hx : lookB l x.f0 = none) {A : Option Addr} {cp : Nat} (hcp : x.f1.length ≤ cp) (hC : Kd.C (Kd.int .i64) w A x.f1.length x.f1) :
    TellS (l ++ [x]) (fun k => if k = -1 - x.f0 then some (.agg #[.int .i64 x.f0, .slice A x.f1.length cp]) else m k) w := fun v => by
  rw [lookB_snoc]
  by_cases e : v = x.f0
  · subst e
    rw [hx]
    simp only [if_true]
    exact ⟨(fun h => by cases h), (fun T hT => by obtain rfl := Option.some.inj hT; exact ⟨A, cp, rfl, hcp, hC⟩)⟩
  · have e2 : ¬ (-1 - v = -1 - x.f0) := by omega
    rw [if_neg (Ne.symm e)]
    simp only [if_neg e2]
    cases hl : lookB l v with
    | none => exact ⟨fun _ => (h v).1 hl, fun T hT => by cases hT⟩
    | some u => exact ⟨fun h => (by cases h), fun T hT => (h v).2 T (by rw [hl]; exact hT)⟩
theorem TellS.told {l : List S30} {m : Int → Option Value} {w : World} (h : TellS l m w) (c : Int) : Told (subOf l) m w c := by
  obtain ⟨h1, h2⟩ := h (-1 - c)
  have e : -1 - (-1 - c) = c := by omega
  rw [e] at h1 h2
  cases hl : lookB l (-1 - c) with
  | none => exact .inl ⟨h1 hl, by unfold subOf; rw [hl]; rfl⟩
  | some T =>
    obtain ⟨A, cp, h3, h4, h5⟩ := h2 T hl
    have e2 : subOf l c = T := by unfold subOf; rw [hl]; rfl
    exact .inr ⟨-1 - c, A, cp, by rw [e2]; exact h3, by rw [e2]; exact h4, by rw [e2]; exact h5⟩
theorem TellS.below {l : List S30} {m : Int → Option Value} {w w1 : World} (h : TellS l m w) (hb : Below w.heap.size w w1) : TellS l m w1 := fun v => ⟨(h v).1, fun T hT => by
  obtain ⟨A, cp, h1, h2, h3⟩ := (h v).2 T hT
  exact ⟨A, cp, h1, h2, Kd.C_below h3 hb⟩⟩
theorem take_snoc {s : List S30} {i : Nat} (h : i < s.length) : s.take (i + 1) = s.take i ++ [s[i]] := by rw [List.take_add_one, List.getElem?_eq_getElem h]; rfl
theorem blk_alloc_old {w : World} {b : Nat} (h : b < w.heap.size) (o : Obj) : (w.alloc o).heap[b]? = w.heap[b]? := (below_alloc (Below.refl w.heap.size w) o).block b h
theorem look_new {s : List S30} (ho : s.Pairwise (fun x y => x.f0 < y.f0)) {i : Nat} (hi : i < s.length) : lookB (s.take i) s[i].f0 = none := by
  cases h : lookB (s.take i) s[i].f0 with
  | none => rfl
  | some u =>
    unfold lookB at h
    obtain ⟨x, hx, _⟩ := Option.map_eq_some_iff.1 h
    have h1 := List.mem_of_find?_eq_some hx
    have h2 := List.find?_some hx
    obtain ⟨j, hj, e⟩ := List.getElem_of_mem h1
    have hji : j < i := by rw [List.length_take] at hj; omega
    rw [List.getElem_take] at e
    have := List.pairwise_iff_getElem.1 ho j i (by omega) hi hji
    rw [e] at this
    have : x.f0 = s[i].f0 := by simpa using h2
    omega
theorem subOf_len {s : List S30} (hT : ∀ x ∈ s, x.f1.length ≤ 17592186044416) (c : Int) : (subOf s c).length ≤ 17592186044416 := by
  unfold subOf
  cases h : lookB s (-1 - c) with
  | none => simp
  | some u =>
    unfold lookB at h
    obtain ⟨x, hx, rfl⟩ := Option.map_eq_some_iff.1 h
    exact hT x (List.mem_of_find?_eq_some hx)
set_option maxHeartbeats 4000000 in
set_option maxRecDepth 100000 in
theorem subst_Apply.calls (A0 : Option Addr) (c0 : Nat) (l0 : List S85) (A1 : Option Addr) (c1 : Nat) (l1 : List S30) (A2 : Option Addr) (c2 : Nat) (l2 : List Int) (r1 : List Int) (r2 : Int) (w : World) (hr0 : Kd.C k85 w A0 l0.length l0) (hc0 : l0.length ≤ c0) (hr1 : Kd.C k30 w A1 l1.length l1) (hc1 : l1.length ≤ c1) (hr2 : Kd.C (Kd.int .i64) w A2 l2.length l2) (hc2 : l2.length ≤ c2) (h : subst_Apply.f l0 l1 l2 = some (r1, r2)) (hT : Tabs w) :
    Calls Tryd.prog 23 #[.slice A0 l0.length c0, .slice A1 l1.length c1, .slice A2 l2.length c2] w fun e w' => ∃ v0_ : Value, e = .returned (.tuple #[v0_, .int .i64 r2]) ∧ (Kd.int .i64).R 3 w' w.heap.size (fun _ => True) v0_ r1 ∧ Below w.heap.size w w' := by
  have hg : applyFine l0 l1 l2 := by
    apply Classical.byContradiction
    intro hn
    rw [subst_Apply.f, if_neg hn] at h
    simp at h
  rw [subst_Apply.f, if_pos hg] at h
  have hE := Option.some.inj h
  obtain ⟨hF, hl1, hlT, hl2⟩ := hg
  obtain ⟨K, hK⟩ := check_is hF hl1 hlT
  have cK := subst_Check.calls K A0 c0 l0 A1 c1 l1 _ w hr0 hc0 hr1 hc1 (hK K (Nat.le_refl _)) hT
  have cP := fun (W : World) (hb : Below w.heap.size w W) => term_Check.calls A0 c0 l0 A2 c2 l2 _ W (Kd.C_below hr0 hb) hc0 (Kd.C_below hr2 hb) hc2 (show term_Check.f l0 l2 = some (chk l0 l2) by rw [term_Check.f, if_pos ⟨hF, hl2⟩]) (hT.below hb)
  by_cases hs : checkS l0 l1 = 0
  · rw [hs] at cK
    by_cases ht : chk l0 l2 = 0
    · rw [applyV, if_neg (fun h => h hs), if_neg (fun h => h ht)] at hE
      have hcode := (chk_ok ht).2.code
      have hsz := sig_len (chk_ok ht).1
      have hfine := checkS_fine.1 hs
      simp only [ht] at cP
      have CK := Aside0.mk cK
      have CP := Aside0.mk cP
      have HE := Aside0.mk hE
      have HFI := Aside0.mk hfine
      have HWF : Aside0 (∀ c, c ∈ l2 → (Lit.int .i64 c).wf = true) := ⟨fun c hc => WalkArith.wf_i64 (by have := hcode c hc; omega)⟩
      have HR1 := Aside0.mk hr1
      have HR2 := Aside0.mk hr2
      have HLT := Aside0.mk hlT
      have hmk := make_hint
      have hmf : ∀ (fn : Fn) (first cap : Array Value) (w : World), (Instr.makeFunc fn first cap).run Tryd.prog w = .ok (.func fn first cap) w := fun _ _ _ _ => rfl
      have hu30 := Tryd.underlying30
      clear h hr0 hr1 hr2 hT cK cP hK hs ht hcode hsz hfine hE hlT
      go_enter Tryd.func23, Tryd.ntmps23
      go_wp2_with fail
      refine CK.out.mono ?_
      rintro e w1 ⟨rfl, hb1⟩
      have HB1 := Aside0.mk hb1
      clear hb1
      go_wp2_with fail
      refine (CP.out _ HB1.out).mono ?_
      rintro e w2 ⟨rfl, hb2⟩
      have HB2 := Aside0.mk (below_step HB1.out hb2)
      clear hb2 CK CP
      go_wp2_with fail
      have hq0 : ((w2.alloc (.map #[] 0)).alloc (.cells #[.map (some w2.heap.size)] 80)).heap[w2.heap.size + 1]? = some (.cells #[.map (some w2.heap.size)] 80 (0, 0)) := blk_new2 _ _ _
      have HQ0 := Aside0.mk hq0
      have HM0 : Aside0 (MapI ((w2.alloc (.map #[] 0)).alloc (.cells #[.map (some w2.heap.size)] 80)) w2.heap.size 0 (fun _ => none)) := ⟨(MapI.made w2).step (blk_alloc (heap_alloc_new w2 _) _ |>.trans (heap_alloc_new w2 _).symm)⟩
      have HB3 := Aside0.mk (below_alloc (below_alloc HB2.out (.map #[] 0)) (.cells #[.map (some w2.heap.size)] 80))
      have hle2 := HB2.out.size
      clear hq0
      go_loopg [30] (l1.length + 1) (fun kq v30 wx => ∃ (i : Nat) (m : Int → Option Value), v30 = .int .i64 i ∧ kq + i = l1.length + 1 ∧ i ≤ l1.length ∧ MapI wx w2.heap.size i m ∧ TellS (l1.take i) m w ∧ wx.heap[w2.heap.size + 1]? = some (.cells #[.map (some w2.heap.size)] 80 (0, 0)) ∧ Below w.heap.size w wx)
      case atStart => exact ⟨0, fun _ => none, rfl, by omega, by omega, HM0.out, TellS.nil _, HQ0.out, HB3.out⟩
      case round =>
        obtain ⟨i, m, rfl, hkq, hile, hM, hTS, hQ, hbr⟩ := hrel
        clear HQ0 HM0 HB3
        have HM := Aside0.mk hM
        have HTS := Aside0.mk hTS
        have HQ := Aside0.mk hQ
        have HBR := Aside0.mk hbr
        by_cases hi : i < l1.length
        · obtain ⟨k1, rfl⟩ : ∃ k1, gk = k1 + 1 := ⟨gk - 1, by omega⟩
          obtain ⟨ad, A3, c3, e, hx0, hx1, hl3, hC3⟩ := at_T30 HR1.out (i : Int) (by omega) (by omega)
          subst e
          rw [rdT30_get hi] at hx0 hx1 hl3 hC3
          rw [Int.toNat_natCast] at hx0 hx1
          replace hx0 := (hbr.cell (World.block_lt_of_cell? w _ hx0)).trans hx0
          replace hx1 := (hbr.cell (World.block_lt_of_cell? w _ hx1)).trans hx1
          have pa : ((0 : Int) ≤ (i : Int)) = True := eq_true (by omega)
          have qa : ((i : Int) < (l1.length : Int)) = True := eq_true (by omega)
          have hn := HFI.out.num _ (List.getElem_mem hi)
          have HP := Aside0.mk (HTS.out.push (x := l1[i]) (look_new HFI.out.ord hi) hl3 hC3)
          rw [← take_snoc hi] at HP
          have hlt := hM.lt
          have hqlt := blk_lt hQ
          have hqc := (blk_cell hQ 0).trans rfl
          have hwf : (Lit.int .i64 (-1 - l1[i].f0)).wf = true := WalkArith.wf_i64 (by omega)
          have hwr : IntKind.i64.wrap (-1 - l1[i].f0) = -1 - l1[i].f0 := by rw [IntKind.wrap_i64]; omega
          generalize l1[i] = x at *
          obtain ⟨x0, x1⟩ := x
          simp only at hx0 hx1 hl3 hC3 hn HP hwf hwr
          generalize x1.length = tn at *
          clear hM hTS hQ hbr hl3 hC3
          go_wp2_with (first | (at_mapUpdate; refine wpList_update_mapI rfl _ _ _ 80 30 rfl Tryd.underlying80 w2.heap.size i m rfl (HM.out.step (blk_alloc_old hlt _)) (by unfold maxLen; omega) (-1 - x0) (.agg #[.int .i64 x0, .slice A3 tn c3]) rfl rfl hwf ?_))
          intro w5 hM5 hg5
          have HM5 := Aside0.mk hM5
          have HQ5 := Aside0.mk ((hg5.block (w2.heap.size + 1) (by rw [alloc_size]; omega) (fun e_ => by injection e_ with e_; omega)).trans ((blk_alloc_old hqlt _).trans HQ.out))
          have HB5 := Aside0.mk ((below_alloc HBR.out (.cells #[.int .i64 x0, .slice A3 tn c3] 30)).grown hg5 (below_alloc HBR.out _).size (fun k_ hk_ => by cases hk_; exact hle2))
          clear hM5 hg5 hqc hlt
          go_wp2_with fail
          go_roundg k1
          case measure => omega
          case rel => exact ⟨i + 1, _, by go_num, by omega, by omega, HM5.out, HP.out, HQ5.out, HB5.out⟩
        · obtain rfl : i = l1.length := by omega
          rw [List.take_length] at hTS
          have cL := laid_calls (subOf l1) w2.heap.size l1.length (w2.heap.size + 1) m wr A2 c2 l2 (Kd.C_below HR2.out hbr) hc2 hl2 hQ hM (fun c hc _ => ⟨(hTS.below hbr).told c, subOf_len HLT.out c⟩) HWF.out
          simp only [HE.out] at cL
          have CL := Aside0.mk cL
          clear cL hM hTS hQ hbr
          go_wp2_with fail
          refine CL.out.mono ?_
          rintro e w6 ⟨v6, rfl, hR6, hb6⟩
          have HR6 := Aside0.mk hR6
          have HB6 := Aside0.mk hb6
          clear hR6 hb6 CL
          go_wp2_with fail
          go_ret2
          exact ⟨_, rfl, Kd.R_lower HR6.out HBR.out.size, below_step HBR.out HB6.out⟩
    · rw [applyV, if_neg (fun h => h hs), if_pos ht] at hE
      obtain ⟨rfl, rfl⟩ := Prod.mk.inj hE
      have hne : (chk l0 l2 != 0) = true := bne_iff_ne.mpr ht
      have CK := Aside0.mk cK
      have CP := Aside0.mk cP
      clear h hr0 hr1 hr2 hT cK cP hK hs ht hE hlT
      go_enter Tryd.func23, Tryd.ntmps23
      go_wp2_with fail
      refine CK.out.mono ?_
      rintro e w1 ⟨rfl, hb1⟩
      have HB1 := Aside0.mk hb1
      clear hb1
      go_wp2_with fail
      refine (CP.out _ HB1.out).mono ?_
      rintro e w2 ⟨rfl, hb2⟩
      have HB2 := Aside0.mk (below_step HB1.out hb2)
      clear hb2
      go_wp2_with fail
      go_ret2
      exact ⟨_, rfl, Kd.R_nil _ _ _ _ _, HB2.out⟩
  · rw [applyV, if_pos hs] at hE
    obtain ⟨rfl, rfl⟩ := Prod.mk.inj hE
    have hne : (checkS l0 l1 != 0) = true := bne_iff_ne.mpr hs
    have CK := Aside0.mk cK
    clear h hr0 hr1 hr2 hT cK cP hK hs hE hlT
    go_enter Tryd.func23, Tryd.ntmps23
    go_wp2_with fail
    refine CK.out.mono ?_
    rintro e w1 ⟨rfl, hb1⟩
    have HB1 := Aside0.mk hb1
    clear hb1
    go_wp2_with fail
    go_ret2
    exact ⟨_, rfl, Kd.R_nil _ _ _ _ _, HB1.out⟩
end
end Go.Proofs.YtjckddaaeiffpaaDoor.Z
