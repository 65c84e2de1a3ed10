/- UnifyGeneral in plain words: other binds that unify do behind the answer's binds what they do by themselves. -/
import Derived.Test.YtjckddaaeiffpaaDoorZ0
import Derived.Test.YtjckddaaeiffpaaDoorZ0f
import Derived.Test.YtjckddaaeiffpaaDoorZ3b
import Derived.Test.YtjckddaaeiffpaaDoorExtMatch
import Derived.Test.YtjckddaaeiffpaaDoorExtSig
import Derived.Test.YtjckddaaeiffpaaDoorExtTree
import Derived.Test.YtjckddaaeiffpaaDoorPureEv
import Derived.Test.YtjckddaaeiffpaaDoorPureTerm
import Derived.Test.YtjckddaaeiffpaaDoorUnShown
import Derived.Test.YtjckddaaeiffpaaDoorUnSubst
import Derived.Test.YtjckddaaeiffpaaDoorUnTheory
namespace Go.Proofs.YtjckddaaeiffpaaDoor.Z
open Go.RowKit Go.Proofs.YtjckddaaeiffpaaDoorW.PrintWords Go.Proofs.YtjckddaaeiffpaaDoorW.PrintLast Go.Proofs.YtjckddaaeiffpaaDoorW.PrintMore
attribute [local go_sem] max2_int min2_int max_two min_two max_three min_three max_four min_four   -- for this text's walks alone
set_option linter.unusedVariables false
set_option linter.unusedSimpArgs false

theorem sameRow6d_l0 (a b : List Int) (hl : a.length = b.length) (hm : a.length ≤ 9223372036854775807) : ∀ (d i : Nat), a.length = i + d → Ev (fun k => lodestonelaw06_sameRow.l0 k a b i) (decide (a.drop i = b.drop i)) := by
  intro d
  induction d with
  | zero =>
    intro i hd
    refine Ev.step (fun k => lodestonelaw06_sameRow.l0.eq_2 _ _ _ k) (Ev.neg (by omega) ?_)
    rw [List.drop_eq_nil_of_le (by omega), List.drop_eq_nil_of_le (by omega)]
    exact Ev.now _
  | succ d ih =>
    intro i hd
    have hi : i < a.length := by omega
    have hj : i < b.length := by omega
    refine Ev.step (fun k => lodestonelaw06_sameRow.l0.eq_2 _ _ _ k) (Ev.pos (by omega) (Ev.pos (by omega) (Ev.pos (by omega) ?_)))
    rw [rd_get hi, rd_get hj, w64_succ hi hm, List.drop_eq_getElem_cons hi, List.drop_eq_getElem_cons hj]
    by_cases e : a[i] = b[i]
    · exact Ev.pos e (Ev.to (ih (i + 1) (by omega)) (by rw [decide_eq_decide]; simp only [List.cons.injEq, e, true_and]))
    · exact Ev.neg e (Ev.to (Ev.now false) (by rw [eq_comm, decide_eq_false_iff_not]; simp only [List.cons.injEq, e, false_and, not_false_iff]))
theorem sameRow6d (a b : List Int) (hm : a.length ≤ 9223372036854775807) : Ev (fun k => lodestonelaw06_sameRow.f k a b) (decide (a = b)) := by
  unfold lodestonelaw06_sameRow.f
  by_cases hl : a.length = b.length
  · exact Ev.pos (by omega) (sameRow6d_l0 a b hl hm a.length 0 (by omega))
  · exact Ev.neg (by omega) (Ev.to (Ev.now false) (by rw [eq_comm, decide_eq_false_iff_not]; exact fun e => hl (by rw [e])))
/-! #### bound -/
theorem chk_of {sig : List S85} {t : List Int} (he : sigErr sig = 0) (h : Terms sig 1 t) : chk sig t = 0 := by
  rw [chk, if_pos he, termErr_cnt sig (sig_ar he)]
  exact (terms_iff sig t 1).2 h
theorem applyV_fine {sig : List S85} {s : List S30} {t : List Int} (hs : SubFine sig s) (ht : chk sig t = 0) : applyV sig s t = if (app (subOf s) t).length ≤ 512 then (app (subOf s) t, 0) else ([], 2) := by
  rw [applyV, if_neg (fun h => h (checkS_fine.2 hs)), if_neg (fun h => h ht), layF_is _ _ _ (by simp), List.nil_append]
theorem applyV_ok {sig : List S85} {s : List S30} {t : List Int} (h : (applyV sig s t).2 = 0) : SubFine sig s ∧ chk sig t = 0 ∧ (app (subOf s) t).length ≤ 512 ∧ applyV sig s t = (app (subOf s) t, 0) := by
  by_cases hs : checkS sig s = 0
  · by_cases ht : chk sig t = 0
    · rw [applyV_fine (checkS_fine.1 hs) ht] at h ⊢
      by_cases hl : (app (subOf s) t).length ≤ 512
      · exact ⟨checkS_fine.1 hs, ht, hl, if_pos hl⟩
      · rw [if_neg hl] at h
        cases h
    · rw [applyV, if_neg (fun h => h hs), if_pos ht] at h
      exact absurd h ht
  · rw [applyV, if_pos hs] at h
    exact absurd h hs
theorem look_mem {s : List S30} {v : Int} {u : List Int} (h : lookB s v = some u) : ∃ x, x ∈ s ∧ x.f0 = v ∧ x.f1 = u := by
  unfold lookB at h
  obtain ⟨x, hx, rfl⟩ := Option.map_eq_some_iff.1 h
  exact ⟨x, List.mem_of_find?_eq_some hx, by simpa using List.find?_some hx, rfl⟩
theorem subOf_ok {sig : List S85} {s : List S30} (hs : SubFine sig s) : SubOk sig (subOf s) := fun c h h2 => by
  unfold subOf
  cases hl : lookB s (-1 - c) with
  | none => exact Terms.var1 sig h h2
  | some u =>
    obtain ⟨x, hx, _, rfl⟩ := look_mem hl
    exact (chk_ok (hs.trm x hx)).2
theorem piece_len {θ : Int → List Int} {c : Int} (hc : c < 0) : ∀ {t : List Int}, c ∈ t → (θ c).length ≤ (app θ t).length := by
  intro t
  induction t with
  | nil => intro h; cases h
  | cons d r ih =>
    intro h
    rw [app_cons, List.length_append]
    rcases List.mem_cons.1 h with rfl | h
    · rw [if_pos hc]; omega
    · have := ih h; omega
theorem apply_is {sig : List S85} {s : List S30} {t : List Int} (h : applyFine sig s t) : subst_Apply.f sig s t = some (applyV sig s t) := by rw [subst_Apply.f, if_pos h]
theorem general_l0 {sig : List S85} {r : List S30} (hr : SubFine sig r) (hF : applyFine sig r []) {l : List S30} (hl : l.length ≤ 9223372036854775807) (hx : ∀ x, x ∈ l → 0 ≤ x.f0 ∧ x.f0 ≤ 1048575 ∧ x.f1.length ≤ 512 ∧ Terms sig 1 x.f1 ∧ app (subOf r) x.f1 = subOf r (-1 - x.f0) ∧ (subOf r (-1 - x.f0)).length ≤ 512) : ∀ (d i : Nat), l.length = i + d → Ev (fun k => lodestonelaw06_UnifyGeneral.l0 k sig r true l (i : Int)) true := by
  intro d
  induction d with
  | zero => intro i hd; exact Ev.step (fun k => lodestonelaw06_UnifyGeneral.l0.eq_2 _ _ _ _ _ k) (Ev.neg (by omega) (Ev.now _))
  | succ d ih =>
    intro i hd
    have hi : i < l.length := by omega
    obtain ⟨h1, h2, h3, h4, h5, h6⟩ := hx _ (List.getElem_mem hi)
    have ew : wrap64 ((-1) - l[i].f0) = -1 - l[i].f0 := w64' (by omega) (by omega)
    have e1 : applyV sig r l[i].f1 = (subOf r (-1 - l[i].f0), 0) := by rw [applyV_fine hr (chk_of hr.sg h4), h5, if_pos h6]
    have ec : app (subOf r) [-1 - l[i].f0] = subOf r (-1 - l[i].f0) := by rw [app_cons, if_pos (by omega), app_nil, List.append_nil]
    have e2 : applyV sig r [-1 - l[i].f0] = (subOf r (-1 - l[i].f0), 0) := by rw [applyV_fine hr (chk_of hr.sg (Terms.var1 sig (by omega) (by omega))), ec, if_pos h6]
    refine Ev.step (fun k => lodestonelaw06_UnifyGeneral.l0.eq_2 _ _ _ _ _ k) (Ev.pos (by omega) (Ev.pos (by omega) ?_))
    rw [rdT30_get hi, ew]
    refine Ev.vbind (apply_is ⟨hF.1, hF.2.1, hF.2.2.1, by omega⟩) (Ev.vbind (apply_is ⟨hF.1, hF.2.1, hF.2.2.1, by simp⟩) ?_)
    rw [e1, e2]
    refine Ev.pos rfl (Ev.pos rfl (Ev.bind (sameRow6 (subOf r (-1 - l[i].f0)) (by omega)) (Ev.pos rfl ?_)))
    rw [w64_succ hi hl]
    exact ih (i + 1) (by omega)
theorem general_j0 {sig : List S85} {a b : List Int} {r : List S30} : Ev (fun k => lodestonelaw06_UnifyGeneral.j0 k sig a b r true true) true :=
  Ev.step (fun k => lodestonelaw06_UnifyGeneral.j0.eq_2 _ _ _ _ _ _ k) (Ev.pos rfl (Ev.now _))
theorem general {sig : List S85} {a b : List Int} {r : List S30} (hF : sigFine sig) (ha : a.length ≤ 17592186043904) (hb : b.length ≤ 17592186043904) (hr : r.length ≤ 17592186043904) (hT : ∀ x ∈ r, x.f1.length ≤ 17592186043904) : Ev (fun k => lodestonelaw06_UnifyGeneral.f k sig a b r) true := by
  have hA : ∀ t : List Int, t.length ≤ 17592186043904 → applyFine sig r t := fun t ht => ⟨hF, by omega, (fun x hx => by have := hT x hx; omega), by omega⟩
  unfold lodestonelaw06_UnifyGeneral.f
  refine Ev.vbind (show lodestonelaw06_shown.f = some true from rfl) (Ev.pos rfl (Ev.vbind (apply_is (hA a ha)) (Ev.vbind (apply_is (hA b hb)) ?_)))
  by_cases e1 : (applyV sig r a).2 = 0
  · refine Ev.pos e1 ?_
    by_cases e2 : (applyV sig r b).2 = 0
    · refine Ev.pos e2 ?_
      obtain ⟨hs, hca, hla, ea⟩ := applyV_ok e1
      obtain ⟨_, hcb, hlb, eb⟩ := applyV_ok e2
      rw [ea, eb]
      refine Ev.bind (sameRow6d _ _ (by show (app (subOf r) a).length ≤ _; omega)) ?_
      by_cases he : app (subOf r) a = app (subOf r) b
      · rw [show decide ((app (subOf r) a, (0 : Int)).1 = (app (subOf r) b, (0 : Int)).1) = true from decide_eq_true he]
        have hU : Unif sig a b (subOf r) := ⟨subOf_ok hs, he⟩
        have hlo : ∀ c, c ∈ a ++ b → -1048576 ≤ c := fun c hc => by
          rcases List.mem_append.1 hc with hc | hc
          · exact ((chk_ok hca).2.code c hc).1
          · exact ((chk_ok hcb).2.code c hc).1
        refine Ev.step (fun k => lodestonelaw06_UnifyGeneral.j0.eq_2 _ _ _ _ _ _ k) (Ev.neg (by decide) (Ev.vbind (can_is hF (by omega) (by omega)) ?_))
        rw [canV_yes hca hcb ⟨_, hU⟩]
        refine Ev.pos rfl (Ev.vbind (unify_is hF (by omega) (by omega)) ?_)
        have eR : unifyR sig a b = unifyV sig a b := by rw [unifyR, if_neg (fun h => h hca), if_neg (fun h => h hcb)]
        rw [eR]
        by_cases hx : ∃ q : List S30 × Int, UAns sig a b q.1 q.2
        · obtain ⟨⟨l, e⟩, hx⟩ := hx
          rw [unifyV_eq hlo hx]
          obtain ⟨hl1, hl2⟩ := UAns.small hlo hx
          rcases hx with ⟨_, _, hn⟩ | ⟨σ, h1, h2, ⟨h3, _, _⟩ | ⟨h3, h4, h5, h6⟩⟩
          · exact absurd ⟨_, hU⟩ hn
          · exact Ev.pos h3 (Ev.now _)
          · refine Ev.neg (by rw [h3]; decide) (Ev.pos h3 (general_l0 (l := l) hs (hA [] (by simp)) (by have : l.length ≤ 1048577 := hl1; omega) (fun x hx => ?_) l.length 0 (by omega)))
            have hx2 := hl2 x hx
            obtain ⟨c, hc, hneg, hne, rfl⟩ := (h6 x).1 hx
            have hc2 := hlo c hc
            have e3 : -1 - (-1 - c) = c := by omega
            show 0 ≤ -1 - c ∧ -1 - c ≤ 1048575 ∧ (σ c).length ≤ 512 ∧ Terms sig 1 (σ c) ∧ app (subOf r) (σ c) = subOf r (-1 - (-1 - c)) ∧ (subOf r (-1 - (-1 - c))).length ≤ 512
            rw [e3]
            refine ⟨by omega, by omega, hx2, h1.uni.1 c hneg hc2, h1.gen _ hU c hneg hc2, ?_⟩
            rcases List.mem_append.1 hc with hc | hc
            · have := piece_len (θ := subOf r) hneg hc; omega
            · have := piece_len (θ := subOf r) hneg hc; omega
        · have e4 : unifyV sig a b = ([], 0) := by unfold unifyV; rw [dif_neg hx]
          rw [e4]
          exact Ev.neg (by decide) (Ev.pos rfl (Ev.step (fun k => lodestonelaw06_UnifyGeneral.l0.eq_2 _ _ _ _ _ k) (Ev.neg (by decide) (Ev.now _))))
      · rw [show decide ((app (subOf r) a, (0 : Int)).1 = (app (subOf r) b, (0 : Int)).1) = false from decide_eq_false he]
        exact general_j0
    · exact Ev.neg e2 general_j0
  · exact Ev.neg e1 general_j0
end Go.Proofs.YtjckddaaeiffpaaDoor.Z
