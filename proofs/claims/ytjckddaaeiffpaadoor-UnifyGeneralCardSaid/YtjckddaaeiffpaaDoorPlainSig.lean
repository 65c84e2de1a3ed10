/- What the document's answer says of a signature and of a term: the check of ref03, in plain words. -/
import Derived.Test.YtjckddaaeiffpaaDoorZ0
import Derived.Test.YtjckddaaeiffpaaDoorZ0e
import Derived.Test.YtjckddaaeiffpaaDoorZ1f
import Derived.Test.YtjckddaaeiffpaaDoorExtName
import Derived.Test.YtjckddaaeiffpaaDoorExtRefName
import Derived.Test.YtjckddaaeiffpaaDoorExtSig
import Derived.Test.YtjckddaaeiffpaaDoorExtTree
import Derived.Test.YtjckddaaeiffpaaDoorPureEv
import Derived.Test.YtjckddaaeiffpaaDoorPureTerm
namespace Go.Proofs.YtjckddaaeiffpaaDoor.Z
open Go.RowKit Go.Proofs.YtjckddaaeiffpaaDoorW.PrintWords Go.Proofs.YtjckddaaeiffpaaDoorW.PrintLast Go.Proofs.YtjckddaaeiffpaaDoorW.PrintMore
attribute [local go_sem] max2_int min2_int max_two min_two max_three min_three max_four min_four   -- for this text's walks alone
set_option linter.unusedVariables false
set_option linter.unusedSimpArgs false

theorem marked_is (s : ByteArray) (h : s.size ≤ 140737488351232) : lodestoneref03_Marked.f s = some (markOk s) := by
  unfold lodestoneref03_Marked.f
  by_cases h0 : 0 < s.size
  · have e : wrap64 ((s.size : Int) - 1) = (s.size : Int) - 1 := w64' (by omega) (by omega)
    rw [e, if_pos (by omega), if_pos (by omega), if_pos (by omega)]
    by_cases hb : bt s ((s.size : Int) - 1) = 35
    · rw [if_pos hb, if_pos (by omega)]
      have e2 : ((s.size : Int) - 1).toNat = s.size - 1 := by omega
      simp [lodestoneref03_Name.f, markOk, h0, hb, e2]
    · rw [if_neg hb]
      simp [markOk, hb]
  · rw [if_neg (by omega)]
    simp [markOk, h0]
theorem rdT85_get {t : List S85} {a : Nat} (h : a < t.length) : rd_T85 t a = t[a] := by
  unfold rd_T85
  rw [Int.toNat_natCast, List.getD_eq_getElem?_getD, List.getElem?_eq_getElem h]
  rfl
theorem refSig_l1 (sig : List S85) (i : Nat) (hi : i < sig.length) (hl : sig.length ≤ 128) (X : Int) (hX : Ev (fun k => lodestoneref03_CheckSig.l0 k sig ((i + 1 : Nat) : Int)) X) : ∀ (d j : Nat), i = j + d →
    Ev (fun k => lodestoneref03_CheckSig.l1 k sig i j) (if ((sig.take i).drop j).any (fun g => g.f0.toList == (rd_T85 sig i).f0.toList) then 36 else X) := by
  intro d
  induction d with
  | zero =>
    intro j hd
    refine Ev.step (fun k => lodestoneref03_CheckSig.l1.eq_2 _ _ _ k) (Ev.neg (by omega) ?_)
    rw [List.drop_eq_nil_of_le (by rw [List.length_take]; omega), w64_succ hi (by omega)]
    exact hX
  | succ d ih =>
    intro j hd
    have hj : j < sig.length := by omega
    refine Ev.step (fun k => lodestoneref03_CheckSig.l1.eq_2 _ _ _ k) (Ev.pos (by omega) (Ev.pos (by omega) (Ev.pos (by omega) (Ev.pos (by omega) (Ev.pos (by omega) ?_)))))
    have e : (sig.take i).drop j = sig[j] :: (sig.take i).drop (j + 1) := by
      rw [List.drop_eq_getElem_cons (by rw [List.length_take]; omega), List.getElem_take]
    rw [e, List.any_cons, rdT85_get hj, w64_succ hj (by omega)]
    by_cases hn : sig[j].f0.toList = (rd_T85 sig i).f0.toList
    · refine Ev.pos hn (Ev.to (Ev.now 36) ?_)
      rw [hn]
      simp
    · refine Ev.neg hn (Ev.to (ih (j + 1) (by omega)) ?_)
      rw [beq_eq_false_iff_ne.2 hn, Bool.false_or]
theorem refSig_l0 (sig : List S85) (hF : sigFine sig) (hl : sig.length ≤ 128) : ∀ (m d i : Nat), sig.length = i + d → d < m → Ev (fun k => lodestoneref03_CheckSig.l0 k sig i) (sigFrom sig m i) := by
  intro m
  induction m with
  | zero => intro d i _ h; omega
  | succ m ih =>
    intro d i hd hm
    rw [sigFrom]
    by_cases hi : i < sig.length
    · rw [if_pos hi]
      have hg := hF.at_ (i : Int)
      have hX := ih (d - 1) (i + 1) (by omega) (by omega)
      have h1 := refSig_l1 sig i hi hl _ hX i 0 (by omega)
      rw [List.drop_zero] at h1
      refine Ev.step (fun k => lodestoneref03_CheckSig.l0.eq_2 _ _ k) (Ev.pos (by omega) (Ev.pos (by omega) ?_))
      have J1 : Ev (fun k => lodestoneref03_CheckSig.j1 k sig i (!(nameOk (rd_T85 sig i).f0 || markOk (rd_T85 sig i).f0))) (if sigStep sig i = 0 then sigFrom sig m (i + 1) else sigStep sig i) := by
        refine Ev.step (fun k => lodestoneref03_CheckSig.j1.eq_2 _ _ _ k) ?_
        rw [sigStep]
        by_cases hN : (nameOk (rd_T85 sig i).f0 || markOk (rd_T85 sig i).f0) = true
        · rw [hN]
          refine Ev.neg (by simp) (Ev.pos (by omega) (Ev.pos (by omega) ?_))
          have hf : (!true) = true ↔ False := by simp
          simp only [hf, if_false]
          by_cases ha : (rd_T85 sig i).f1 < 0 ∨ (rd_T85 sig i).f1 > 8
          · rw [if_pos ha, if_neg (by decide)]
            by_cases h0 : (rd_T85 sig i).f1 < 0
            · exact Ev.pos h0 (Ev.step (fun k => lodestoneref03_CheckSig.j2.eq_2 _ _ _ k) (Ev.pos rfl (Ev.now _)))
            · exact Ev.neg h0 (Ev.step (fun k => lodestoneref03_CheckSig.j2.eq_2 _ _ _ k) (Ev.pos (by simp; omega) (Ev.now _)))
          · rw [if_neg ha]
            refine Ev.neg (by omega) (Ev.step (fun k => lodestoneref03_CheckSig.j2.eq_2 _ _ _ k) (Ev.neg (by simp; omega) (Ev.to h1 ?_)))
            by_cases hany : ((sig.take i).any fun x => x.f0.toList == (rd_T85 sig i).f0.toList) = true
            · rw [if_pos hany, if_pos hany, if_neg (by decide)]
            · rw [if_neg hany, if_neg hany, if_pos rfl]
        · have hN' : (nameOk (rd_T85 sig i).f0 || markOk (rd_T85 sig i).f0) = false := by simpa using hN
          rw [hN']
          refine Ev.pos rfl (Ev.to (Ev.now 34) ?_)
          rfl
      refine Ev.vbind (x := nameOk (rd_T85 sig i).f0) rfl ?_
      cases hn : nameOk (rd_T85 sig i).f0 with
      | true =>
        refine Ev.pos rfl ?_
        rw [hn] at J1
        exact J1
      | false =>
        refine Ev.neg (by simp) (Ev.vbind (marked_is _ hg) ?_)
        rw [hn, Bool.false_or] at J1
        exact J1
    · rw [if_neg hi]
      exact Ev.step (fun k => lodestoneref03_CheckSig.l0.eq_2 _ _ k) (Ev.neg (by omega) (Ev.now _))
theorem refSig (sig : List S85) (hF : sigFine sig) : Ev (fun k => lodestoneref03_CheckSig.f k sig) (sigErr sig) := by
  unfold lodestoneref03_CheckSig.f
  rw [sigErr]
  by_cases h : 128 < sig.length
  · rw [if_pos h]
    exact Ev.pos (by omega) (Ev.now _)
  · rw [if_neg h]
    exact Ev.neg (by omega) (refSig_l0 sig hF (by omega) 129 sig.length 0 (by omega) (by omega))
theorem ari_eq {sig : List S85} (har : arOk sig) {c : Int} (h0 : 0 ≤ c) (h1 : c < sig.length) : (rd_T85 sig c).f1 = (ari sig c : Nat) ∧ ari sig c ≤ 8 := by
  have hA := har c.toNat (by omega)
  rw [Int.toNat_of_nonneg h0] at hA
  unfold ari
  omega
theorem refTerm_l0 (sig : List S85) (har : arOk sig) (t : List Int) (hl : t.length ≤ 17592186044416) : ∀ (d i o : Nat), t.length = i + d → 1 ≤ o → o ≤ 8 * i + 1 → Ev (fun k => lodestoneref03_Term.l0 k sig t o i) (cnt sig (t.drop i) o) := by
  intro d
  induction d with
  | zero =>
    intro i o hd ho hb
    refine Ev.step (fun k => lodestoneref03_Term.l0.eq_2 _ _ _ _ k) (Ev.pos (by omega) (Ev.pos (by omega) (Ev.to (Ev.now 31) ?_)))
    obtain ⟨o, rfl⟩ : ∃ o', o = o' + 1 := ⟨o - 1, by omega⟩
    rw [List.drop_eq_nil_of_le (by omega)]
    rfl
  | succ d ih =>
    intro i o hd ho hb
    obtain ⟨o, rfl⟩ : ∃ o', o = o' + 1 := ⟨o - 1, by omega⟩
    have hi : i < t.length := by omega
    have e1 : wrap64 (((o + 1 : Nat) : Int) - 1) = (o : Int) := by rw [w64' (by omega) (by omega)]; omega
    have next : ∀ o2 : Nat, o2 ≤ 8 * (i + 1) + 1 → Ev (fun k => if (o2 : Int) = 0 then (if ((i + 1 : Nat) : Int) < (t.length : Int) then some 32 else lodestoneref03_Term.l0 k sig t o2 ((i + 1 : Nat) : Int)) else lodestoneref03_Term.l0 k sig t o2 ((i + 1 : Nat) : Int)) (cnt sig (t.drop (i + 1)) o2) := by
      intro o2 h2
      by_cases h0 : o2 = 0
      · subst h0
        refine Ev.pos (by omega) ?_
        by_cases hlt : i + 1 < t.length
        · refine Ev.pos (by omega) (Ev.to (Ev.now 32) ?_)
          rw [drop_cons hlt]
          rfl
        · refine Ev.neg (by omega) (Ev.to (Ev.step (fun k => lodestoneref03_Term.l0.eq_2 _ _ _ _ k) (Ev.neg (by omega) (Ev.now 0))) ?_)
          rw [List.drop_eq_nil_of_le (by omega)]
          rfl
      · exact Ev.neg (by omega) (ih (i + 1) o2 (by omega) (by omega) h2)
    refine Ev.step (fun k => lodestoneref03_Term.l0.eq_2 _ _ _ _ k) (Ev.pos (by omega) (Ev.neg (by omega) (Ev.pos (by omega) (Ev.pos (by omega) ?_))))
    rw [drop_cons hi, cnt]
    have J1 : Ev (fun k => lodestoneref03_Term.j1 k sig t ((o + 1 : Nat) : Int) i (decide (rd t i ≥ sig.length ∨ rd t i < -1048576))) (if rd t i ≥ sig.length ∨ rd t i < -1048576 then 30 else if rd t i < 0 then cnt sig (t.drop (i + 1)) o else cnt sig (t.drop (i + 1)) (o + ari sig (rd t i))) := by
      refine Ev.step (fun k => lodestoneref03_Term.j1.eq_2 _ _ _ _ _ k) ?_
      by_cases hbad : rd t i ≥ sig.length ∨ rd t i < -1048576
      · rw [if_pos hbad]
        exact Ev.pos (by simpa using hbad) (Ev.now _)
      · rw [if_neg hbad]
        refine Ev.neg (by simpa using hbad) (Ev.pos (by omega) (Ev.pos (by omega) ?_))
        rw [e1, w64_succ hi (by omega)]
        by_cases hv : rd t i < 0
        · rw [if_pos hv]
          exact Ev.neg (by omega) (next o (by omega))
        · rw [if_neg hv]
          obtain ⟨h1, h2⟩ := ari_eq har (c := rd t i) (by omega) (by omega)
          refine Ev.pos (by omega) (Ev.pos (by omega) (Ev.pos (by omega) ?_))
          have e2 : wrap64 ((o : Int) + (rd_T85 sig (rd t i)).f1) = ((o + ari sig (rd t i) : Nat) : Int) := by rw [h1, w64' (by omega) (by omega)]; omega
          rw [e2]
          exact next _ (by omega)
    by_cases hc : rd t i ≥ sig.length
    · refine Ev.pos hc ?_
      rw [decide_eq_true (p := rd t i ≥ sig.length ∨ rd t i < -1048576) (.inl hc)] at J1
      exact J1
    · refine Ev.neg hc ?_
      have e3 : decide (rd t i ≥ sig.length ∨ rd t i < -1048576) = decide (rd t i < -1048576) := by rw [decide_eq_decide]; exact ⟨fun h => h.resolve_left hc, .inr⟩
      rw [e3] at J1
      exact J1
theorem refCheck (sig : List S85) (hF : sigFine sig) (t : List Int) (hl : t.length ≤ 17592186044416) : Ev (fun k => lodestoneref03_Check.f k sig t) (chk sig t) := by
  unfold lodestoneref03_Check.f
  refine Ev.bind (refSig sig hF) ?_
  rw [chk]
  by_cases he : sigErr sig = 0
  · rw [if_pos he]
    refine Ev.pos he ?_
    rw [termErr_cnt sig (sig_ar he)]
    have h := refTerm_l0 sig (sig_ar he) t hl t.length 0 1 (by omega) (Nat.le_refl _) (by omega)
    rw [List.drop_zero] at h
    exact Ev.bind (f := fun _ x => some x) (show Ev (fun k => lodestoneref03_Term.f k sig t) _ from h) (Ev.now _)
  · rw [if_neg he]
    exact Ev.neg he (Ev.now _)
end Go.Proofs.YtjckddaaeiffpaaDoor.Z
