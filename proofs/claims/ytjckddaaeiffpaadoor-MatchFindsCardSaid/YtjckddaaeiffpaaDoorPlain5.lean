/- The reference's Match, as a plain function: it answers as (match.Match) does. -/
import Derived.Test.YtjckddaaeiffpaaDoorZ0
import Derived.Test.YtjckddaaeiffpaaDoorZ0b
import Derived.Test.YtjckddaaeiffpaaDoorZ0c
import Derived.Test.YtjckddaaeiffpaaDoorZ0e
import Derived.Test.YtjckddaaeiffpaaDoorZ1c
import Derived.Test.YtjckddaaeiffpaaDoorZ1d
import Derived.Test.YtjckddaaeiffpaaDoorExtMatch
import Derived.Test.YtjckddaaeiffpaaDoorExtName
import Derived.Test.YtjckddaaeiffpaaDoorExtRefName
import Derived.Test.YtjckddaaeiffpaaDoorExtSig
import Derived.Test.YtjckddaaeiffpaaDoorExtTree
import Derived.Test.YtjckddaaeiffpaaDoorPureEv
import Derived.Test.YtjckddaaeiffpaaDoorPureTerm
namespace Go.Proofs.YtjckddaaeiffpaaDoor.Z
open Go.RowKit Go.Proofs.YtjckddaaeiffpaaDoorW.PrintWords Go.Proofs.YtjckddaaeiffpaaDoorW.PrintLast Go.Proofs.YtjckddaaeiffpaaDoorW.PrintMore
attribute [local go_sem] max2_int min2_int max_two min_two max_three min_three max_four min_four   -- for this text's walks alone
set_option linter.unusedVariables false
set_option linter.unusedSimpArgs false

theorem marked_is (s : ByteArray) (h : s.size ≤ 140737488351232) : lodestoneref03_Marked.f s = some (markOk s) := by
  unfold lodestoneref03_Marked.f
  by_cases h0 : 0 < s.size
  · have e : wrap64 ((s.size : Int) - 1) = (s.size : Int) - 1 := w64' (by omega) (by omega)
    rw [e, if_pos (by omega), if_pos (by omega), if_pos (by omega)]
    by_cases hb : bt s ((s.size : Int) - 1) = 35
    · rw [if_pos hb, if_pos (by omega)]
      have e2 : ((s.size : Int) - 1).toNat = s.size - 1 := by omega
      simp [lodestoneref03_Name.f, markOk, h0, hb, e2]
    · rw [if_neg hb]
      simp [markOk, hb]
  · rw [if_neg (by omega)]
    simp [markOk, h0]
theorem rdT85_get {t : List S85} {a : Nat} (h : a < t.length) : rd_T85 t a = t[a] := by
  unfold rd_T85
  rw [Int.toNat_natCast, List.getD_eq_getElem?_getD, List.getElem?_eq_getElem h]
  rfl
theorem refSig_l1 (sig : List S85) (i : Nat) (hi : i < sig.length) (hl : sig.length ≤ 128) (X : Int) (hX : Ev (fun k => lodestoneref03_CheckSig.l0 k sig ((i + 1 : Nat) : Int)) X) : ∀ (d j : Nat), i = j + d →
    Ev (fun k => lodestoneref03_CheckSig.l1 k sig i j) (if ((sig.take i).drop j).any (fun g => g.f0.toList == (rd_T85 sig i).f0.toList) then 36 else X) := by
  intro d
  induction d with
  | zero =>
    intro j hd
    refine Ev.step (fun k => lodestoneref03_CheckSig.l1.eq_2 _ _ _ k) (Ev.neg (by omega) ?_)
    rw [List.drop_eq_nil_of_le (by rw [List.length_take]; omega), w64_succ hi (by omega)]
    exact hX
  | succ d ih =>
    intro j hd
    have hj : j < sig.length := by omega
    refine Ev.step (fun k => lodestoneref03_CheckSig.l1.eq_2 _ _ _ k) (Ev.pos (by omega) (Ev.pos (by omega) (Ev.pos (by omega) (Ev.pos (by omega) (Ev.pos (by omega) ?_)))))
    have e : (sig.take i).drop j = sig[j] :: (sig.take i).drop (j + 1) := by
      rw [List.drop_eq_getElem_cons (by rw [List.length_take]; omega), List.getElem_take]
    rw [e, List.any_cons, rdT85_get hj, w64_succ hj (by omega)]
    by_cases hn : sig[j].f0.toList = (rd_T85 sig i).f0.toList
    · refine Ev.pos hn (Ev.to (Ev.now 36) ?_)
      rw [hn]
      simp
    · refine Ev.neg hn (Ev.to (ih (j + 1) (by omega)) ?_)
      rw [beq_eq_false_iff_ne.2 hn, Bool.false_or]
theorem refSig_l0 (sig : List S85) (hF : sigFine sig) (hl : sig.length ≤ 128) : ∀ (m d i : Nat), sig.length = i + d → d < m → Ev (fun k => lodestoneref03_CheckSig.l0 k sig i) (sigFrom sig m i) := by
  intro m
  induction m with
  | zero => intro d i _ h; omega
  | succ m ih =>
    intro d i hd hm
    rw [sigFrom]
    by_cases hi : i < sig.length
    · rw [if_pos hi]
      have hg := hF.at_ (i : Int)
      have hX := ih (d - 1) (i + 1) (by omega) (by omega)
      have h1 := refSig_l1 sig i hi hl _ hX i 0 (by omega)
      rw [List.drop_zero] at h1
      refine Ev.step (fun k => lodestoneref03_CheckSig.l0.eq_2 _ _ k) (Ev.pos (by omega) (Ev.pos (by omega) ?_))
      have J1 : Ev (fun k => lodestoneref03_CheckSig.j1 k sig i (!(nameOk (rd_T85 sig i).f0 || markOk (rd_T85 sig i).f0))) (if sigStep sig i = 0 then sigFrom sig m (i + 1) else sigStep sig i) := by
        refine Ev.step (fun k => lodestoneref03_CheckSig.j1.eq_2 _ _ _ k) ?_
        rw [sigStep]
        by_cases hN : (nameOk (rd_T85 sig i).f0 || markOk (rd_T85 sig i).f0) = true
        · rw [hN]
          refine Ev.neg (by simp) (Ev.pos (by omega) (Ev.pos (by omega) ?_))
          have hf : (!true) = true ↔ False := by simp
          simp only [hf, if_false]
          by_cases ha : (rd_T85 sig i).f1 < 0 ∨ (rd_T85 sig i).f1 > 8
          · rw [if_pos ha, if_neg (by decide)]
            by_cases h0 : (rd_T85 sig i).f1 < 0
            · exact Ev.pos h0 (Ev.step (fun k => lodestoneref03_CheckSig.j2.eq_2 _ _ _ k) (Ev.pos rfl (Ev.now _)))
            · exact Ev.neg h0 (Ev.step (fun k => lodestoneref03_CheckSig.j2.eq_2 _ _ _ k) (Ev.pos (by simp; omega) (Ev.now _)))
          · rw [if_neg ha]
            refine Ev.neg (by omega) (Ev.step (fun k => lodestoneref03_CheckSig.j2.eq_2 _ _ _ k) (Ev.neg (by simp; omega) (Ev.to h1 ?_)))
            by_cases hany : ((sig.take i).any fun x => x.f0.toList == (rd_T85 sig i).f0.toList) = true
            · rw [if_pos hany, if_pos hany, if_neg (by decide)]
            · rw [if_neg hany, if_neg hany, if_pos rfl]
        · have hN' : (nameOk (rd_T85 sig i).f0 || markOk (rd_T85 sig i).f0) = false := by simpa using hN
          rw [hN']
          refine Ev.pos rfl (Ev.to (Ev.now 34) ?_)
          rfl
      refine Ev.vbind (x := nameOk (rd_T85 sig i).f0) rfl ?_
      cases hn : nameOk (rd_T85 sig i).f0 with
      | true =>
        refine Ev.pos rfl ?_
        rw [hn] at J1
        exact J1
      | false =>
        refine Ev.neg (by simp) (Ev.vbind (marked_is _ hg) ?_)
        rw [hn, Bool.false_or] at J1
        exact J1
    · rw [if_neg hi]
      exact Ev.step (fun k => lodestoneref03_CheckSig.l0.eq_2 _ _ k) (Ev.neg (by omega) (Ev.now _))
theorem refSig (sig : List S85) (hF : sigFine sig) : Ev (fun k => lodestoneref03_CheckSig.f k sig) (sigErr sig) := by
  unfold lodestoneref03_CheckSig.f
  rw [sigErr]
  by_cases h : 128 < sig.length
  · rw [if_pos h]
    exact Ev.pos (by omega) (Ev.now _)
  · rw [if_neg h]
    exact Ev.neg (by omega) (refSig_l0 sig hF (by omega) 129 sig.length 0 (by omega) (by omega))
theorem ari_eq {sig : List S85} (har : arOk sig) {c : Int} (h0 : 0 ≤ c) (h1 : c < sig.length) : (rd_T85 sig c).f1 = (ari sig c : Nat) ∧ ari sig c ≤ 8 := by
  have hA := har c.toNat (by omega)
  rw [Int.toNat_of_nonneg h0] at hA
  unfold ari
  omega
theorem refTerm_l0 (sig : List S85) (har : arOk sig) (t : List Int) (hl : t.length ≤ 17592186044416) : ∀ (d i o : Nat), t.length = i + d → 1 ≤ o → o ≤ 8 * i + 1 → Ev (fun k => lodestoneref03_Term.l0 k sig t o i) (cnt sig (t.drop i) o) := by
  intro d
  induction d with
  | zero =>
    intro i o hd ho hb
    refine Ev.step (fun k => lodestoneref03_Term.l0.eq_2 _ _ _ _ k) (Ev.pos (by omega) (Ev.pos (by omega) (Ev.to (Ev.now 31) ?_)))
    obtain ⟨o, rfl⟩ : ∃ o', o = o' + 1 := ⟨o - 1, by omega⟩
    rw [List.drop_eq_nil_of_le (by omega)]
    rfl
  | succ d ih =>
    intro i o hd ho hb
    obtain ⟨o, rfl⟩ : ∃ o', o = o' + 1 := ⟨o - 1, by omega⟩
    have hi : i < t.length := by omega
    have e1 : wrap64 (((o + 1 : Nat) : Int) - 1) = (o : Int) := by rw [w64' (by omega) (by omega)]; omega
    have next : ∀ o2 : Nat, o2 ≤ 8 * (i + 1) + 1 → Ev (fun k => if (o2 : Int) = 0 then (if ((i + 1 : Nat) : Int) < (t.length : Int) then some 32 else lodestoneref03_Term.l0 k sig t o2 ((i + 1 : Nat) : Int)) else lodestoneref03_Term.l0 k sig t o2 ((i + 1 : Nat) : Int)) (cnt sig (t.drop (i + 1)) o2) := by
      intro o2 h2
      by_cases h0 : o2 = 0
      · subst h0
        refine Ev.pos (by omega) ?_
        by_cases hlt : i + 1 < t.length
        · refine Ev.pos (by omega) (Ev.to (Ev.now 32) ?_)
          rw [drop_cons hlt]
          rfl
        · refine Ev.neg (by omega) (Ev.to (Ev.step (fun k => lodestoneref03_Term.l0.eq_2 _ _ _ _ k) (Ev.neg (by omega) (Ev.now 0))) ?_)
          rw [List.drop_eq_nil_of_le (by omega)]
          rfl
      · exact Ev.neg (by omega) (ih (i + 1) o2 (by omega) (by omega) h2)
    refine Ev.step (fun k => lodestoneref03_Term.l0.eq_2 _ _ _ _ k) (Ev.pos (by omega) (Ev.neg (by omega) (Ev.pos (by omega) (Ev.pos (by omega) ?_))))
    rw [drop_cons hi, cnt]
    have J1 : Ev (fun k => lodestoneref03_Term.j1 k sig t ((o + 1 : Nat) : Int) i (decide (rd t i ≥ sig.length ∨ rd t i < -1048576))) (if rd t i ≥ sig.length ∨ rd t i < -1048576 then 30 else if rd t i < 0 then cnt sig (t.drop (i + 1)) o else cnt sig (t.drop (i + 1)) (o + ari sig (rd t i))) := by
      refine Ev.step (fun k => lodestoneref03_Term.j1.eq_2 _ _ _ _ _ k) ?_
      by_cases hbad : rd t i ≥ sig.length ∨ rd t i < -1048576
      · rw [if_pos hbad]
        exact Ev.pos (by simpa using hbad) (Ev.now _)
      · rw [if_neg hbad]
        refine Ev.neg (by simpa using hbad) (Ev.pos (by omega) (Ev.pos (by omega) ?_))
        rw [e1, w64_succ hi (by omega)]
        by_cases hv : rd t i < 0
        · rw [if_pos hv]
          exact Ev.neg (by omega) (next o (by omega))
        · rw [if_neg hv]
          obtain ⟨h1, h2⟩ := ari_eq har (c := rd t i) (by omega) (by omega)
          refine Ev.pos (by omega) (Ev.pos (by omega) (Ev.pos (by omega) ?_))
          have e2 : wrap64 ((o : Int) + (rd_T85 sig (rd t i)).f1) = ((o + ari sig (rd t i) : Nat) : Int) := by rw [h1, w64' (by omega) (by omega)]; omega
          rw [e2]
          exact next _ (by omega)
    by_cases hc : rd t i ≥ sig.length
    · refine Ev.pos hc ?_
      rw [decide_eq_true (p := rd t i ≥ sig.length ∨ rd t i < -1048576) (.inl hc)] at J1
      exact J1
    · refine Ev.neg hc ?_
      have e3 : decide (rd t i ≥ sig.length ∨ rd t i < -1048576) = decide (rd t i < -1048576) := by rw [decide_eq_decide]; exact ⟨fun h => h.resolve_left hc, .inr⟩
      rw [e3] at J1
      exact J1
theorem refCheck (sig : List S85) (hF : sigFine sig) (t : List Int) (hl : t.length ≤ 17592186044416) : Ev (fun k => lodestoneref03_Check.f k sig t) (chk sig t) := by
  unfold lodestoneref03_Check.f
  refine Ev.bind (refSig sig hF) ?_
  rw [chk]
  by_cases he : sigErr sig = 0
  · rw [if_pos he]
    refine Ev.pos he ?_
    rw [termErr_cnt sig (sig_ar he)]
    have h := refTerm_l0 sig (sig_ar he) t hl t.length 0 1 (by omega) (Nat.le_refl _) (by omega)
    rw [List.drop_zero] at h
    exact Ev.bind (f := fun _ x => some x) (show Ev (fun k => lodestoneref03_Term.f k sig t) _ from h) (Ev.now _)
  · rw [if_neg he]
    exact Ev.neg he (Ev.now _)
theorem refEnd_l0 (sig : List S85) (har : arOk sig) (t : List Int) (hl : t.length ≤ 17592186044416) : ∀ (d a o m : Nat), t.length = a + d → Terms sig (o + m) (t.drop a) → Ev (fun k => lodestoneref03_End.l0 k sig t a o) ((a + reachN sig (t.drop a) o : Nat) : Int) := by
  intro d
  induction d with
  | zero =>
    intro a o m hd ht
    rw [List.drop_eq_nil_of_le (by omega)] at ht ⊢
    generalize hom : o + m = om at ht
    cases ht
    obtain rfl : o = 0 := by omega
    exact Ev.step (fun k => lodestoneref03_End.l0.eq_2 _ _ _ _ k) (Ev.neg (by omega) (Ev.now _))
  | succ d ih =>
    intro a o m hd ht
    have hle := ht.le
    rw [List.length_drop] at hle
    have ha : a < t.length := by omega
    cases o with
    | zero =>
      refine Ev.step (fun k => lodestoneref03_End.l0.eq_2 _ _ _ _ k) (Ev.neg (by omega) (Ev.to (Ev.now _) ?_))
      rw [reachN.eq_1]
      rfl
    | succ o =>
      rw [drop_cons ha] at ht ⊢
      rw [show o + 1 + m = (o + m) + 1 by omega] at ht
      refine Ev.step (fun k => lodestoneref03_End.l0.eq_2 _ _ _ _ k) (Ev.pos (by omega) (Ev.pos (by omega) (Ev.pos (by omega) ?_)))
      have e1 : wrap64 (((o + 1 : Nat) : Int) - 1) = (o : Int) := by rw [w64' (by omega) (by omega)]; omega
      rw [w64_succ ha (by omega), e1]
      cases ht with
      | var _ h1 h2 h3 =>
        refine Ev.neg (by omega) (Ev.to (ih (a + 1) o m (by omega) h3) ?_)
        rw [reachN, if_pos h1]
        omega
      | app _ h1 h2 h3 =>
        have hle3 := h3.le
        rw [List.length_drop] at hle3
        obtain ⟨hA, _⟩ := ari_eq har h1 h2
        refine Ev.pos (by omega) (Ev.pos (by omega) (Ev.pos (by omega) ?_))
        have e2 : wrap64 ((o : Int) + (rd_T85 sig (rd t a)).f1) = ((o + ari sig (rd t a) : Nat) : Int) := by rw [hA, w64' (by omega) (by omega)]; omega
        rw [e2]
        refine Ev.to (ih (a + 1) (o + ari sig (rd t a)) m (by omega) (by rw [show o + ari sig (rd t a) + m = o + m + ari sig (rd t a) by omega]; exact h3)) ?_
        rw [reachN, if_neg (by omega)]
        omega
theorem look5 (l : List S30) (v : Int) (hm : l.length ≤ 9223372036854775807) : ∃ r : Int, Ev (fun k => lodestoneref05_bound.f k l v) r ∧ ((r < 0 ∧ lookB l v = none) ∨ ∃ j : Nat, r = j ∧ ∃ h : j < l.length, lookB l v = some l[j].f1) := by
  obtain ⟨r, hr, h⟩ := bound5_l0 l v hm l.length 0 (by omega)
  refine ⟨r, hr, ?_⟩
  rcases h with ⟨h1, h2⟩ | ⟨j, h1, _, h3, h4, h5⟩
  · refine .inl ⟨by omega, ?_⟩
    rw [lookB, Option.map_eq_none_iff, List.find?_eq_none]
    intro x hx
    simpa using h2 x (by simpa using hx)
  · refine .inr ⟨j, h1, h3, ?_⟩
    rw [lookB, List.find?_eq_some_iff_getElem.2 ⟨by simpa using h4, j, h3, rfl, fun m hm => by simpa using h5 m (by omega) (Nat.zero_le _) hm⟩]
    rfl
theorem sortB_perm (l : List S30) : (sortB l).Perm l := List.mergeSort_perm l _
theorem sortB_lt {l : List S30} (hn : (l.map (·.f0)).Nodup) : (sortB l).Pairwise (fun a b => a.f0 < b.f0) := by
  have h2 : (sortB l).Pairwise (fun a b => a.f0 ≤ b.f0) := by
    have := List.pairwise_mergeSort (le := fun a b : S30 => decide (a.f0 ≤ b.f0)) (by intro a b c; simp; omega) (by intro a b; simp; omega) l
    exact this.imp (by intro a b h; simpa using h)
  have h3 : ((sortB l).map (·.f0)).Nodup := ((sortB_perm l).map _).nodup_iff.2 hn
  have h4 : (sortB l).Pairwise (fun a b => a.f0 ≠ b.f0) := by
    have := h3
    rw [List.Nodup, List.pairwise_map] at this
    exact this
  exact (h2.and h4).imp (fun h => by omega)
theorem keys_small {l : List S30} (hk : ∀ x, x ∈ l → 0 ≤ x.f0 ∧ x.f0 ≤ 1048576) (hn : (l.map (·.f0)).Nodup) : l.length ≤ 1048577 := by
  have := nodup_small 1048577 (l.map (·.f0)) hn (fun x hx => by
    obtain ⟨y, hy, rfl⟩ := List.mem_map.1 hx
    have := hk y hy
    omega)
  simpa using this
theorem refInner_l0 (sig : List S85) (har : arOk sig) (hs : sig.length ≤ 128) (p t : List Int) (hp : p.length ≤ 17592186044416) (ht : t.length < 17592186044416) : ∀ (d i n a : Nat) (l : List S30), p.length = i + d → Terms sig n (p.drop i) → Terms sig n (t.drop a) → a ≤ t.length →
    (∀ x, x ∈ l → 0 ≤ x.f0 ∧ x.f0 ≤ 1048576) → (∀ x, x ∈ l → x.f1.length ≤ 17592186044416) → (l.map (·.f0)).Nodup → Ev (fun k => lodestoneref05_Inner.l0 k sig p t l a i) (match matchGo sig (p.drop i) (t.drop a) l with | none => ([], false) | some l' => (sortB l', true)) := by
  intro d
  induction d with
  | zero =>
    intro i n a l hd h1 h2 ha hk hT hn
    refine Ev.step (fun k => lodestoneref05_Inner.l0.eq_2 _ _ _ _ _ _ k) (Ev.neg (by omega) ?_)
    have e : p.drop i = [] := List.drop_eq_nil_of_le (by omega)
    rw [e, matchGo]
    exact Ev.bind (f := fun _ x => some (x, true)) (sorted5 l (sortB l) (sortB_perm l) (sortB_lt hn) (by have := keys_small hk hn; omega)) (Ev.now _)
  | succ d ih =>
    intro i n a l hd h1 h2 ha hk hT hn
    have hi : i < p.length := by omega
    have hdp := drop_cons hi
    rw [hdp] at h1 ⊢
    have hn0 : 0 < n := by cases h1 <;> omega
    have hle := h2.le
    rw [List.length_drop] at hle
    have hat : a < t.length := by omega
    refine Ev.step (fun k => lodestoneref05_Inner.l0.eq_2 _ _ _ _ _ _ k) (Ev.pos (by omega) (Ev.pos (by omega) ?_))
    rw [w64_succ hi (by omega), matchGo]
    by_cases hc : rd p i ≥ 0
    · rw [if_pos hc]
      refine Ev.pos hc (Ev.pos (by omega) (Ev.pos (by omega) ?_))
      have e0 : rd (t.drop a) 0 = rd t a := by rw [drop_cons hat]; rfl
      rw [e0, w64_succ hat (by omega), List.drop_drop]
      by_cases he : rd t a = rd p i
      · rw [if_pos he]
        rw [drop_cons hat, he] at h2
        cases h1 with
        | var _ h3 _ _ => omega
        | app _ _ _ h3 =>
          cases h2 with
          | var _ h4 _ _ => omega
          | app _ _ _ h4 => exact Ev.pos he (ih (i + 1) _ (a + 1) l (by omega) h3 h4 (by omega) hk hT hn)
      · rw [if_neg he]
        exact Ev.neg he (Ev.now _)
    · rw [if_neg hc]
      obtain ⟨n, rfl⟩ : ∃ n', n = n' + 1 := ⟨n - 1, by omega⟩
      have h2' := h2
      rw [Nat.add_comm] at h2'
      have hE := refEnd_l0 sig har t (by omega) (t.length - a) a 1 n (by omega) h2'
      obtain ⟨u, v, huv, hu, hv⟩ := h2'.split
      have hr : reachN sig (t.drop a) 1 = u.length := by rw [huv]; exact terms_reach sig u 1 v hu
      have hul : u.length ≤ t.length - a := by
        have := congrArg List.length huv
        rw [List.length_drop, List.length_append] at this
        omega
      have hp' : Terms sig n (p.drop (i + 1)) ∧ -1048576 ≤ rd p i := by
        cases h1 with
        | var _ _ h4 h3 => exact ⟨h3, h4⟩
        | app _ h3 _ _ => omega
      have htk : (t.drop a).take u.length = u := by rw [huv, List.take_left]
      have htd : (t.drop a).drop u.length = v := by rw [huv, List.drop_left]
      have htd2 : t.drop (a + u.length) = v := by rw [← List.drop_drop]; exact htd
      have hmid : (t.take (a + u.length)).drop a = u := by rw [List.drop_take, Nat.add_sub_cancel_left]; exact htk
      have hk1 : wrap64 (-1 - rd p i) = -1 - rd p i := w64' (by omega) (by omega)
      rw [hr, htk, htd, ← htd2]
      rw [hr] at hE
      refine Ev.neg hc (Ev.bind hE (Ev.vbind (x := ([] : List Int)) rfl (Ev.pos (by omega) (Ev.pos (by omega) (Ev.pos (by omega) ?_)))))
      rw [Int.toNat_natCast, Int.toNat_natCast, hmid]
      refine Ev.pos (by simp; omega) (Ev.vbind (x := u) (by simp) ?_)
      obtain ⟨r, hB, hlk⟩ := look5 l (-1 - rd p i) (by have := keys_small hk hn; omega)
      rw [hk1]
      refine Ev.bind hB ?_
      rcases hlk with ⟨h3, h4⟩ | ⟨j, rfl, hj, h4⟩
      · rw [h4]
        refine Ev.pos h3 (Ev.pos (by have := keys_small hk hn; omega) (ih (i + 1) n (a + u.length) _ (by omega) hp'.1 (by rw [htd2]; exact hv) (by omega) ?_ ?_ ?_))
        · intro x hx
          rcases List.mem_append.1 hx with hx | hx
          · exact hk x hx
          · rw [List.mem_singleton.1 hx]
            show 0 ≤ -1 - rd p i ∧ -1 - rd p i ≤ 1048576
            omega
        · intro x hx
          rcases List.mem_append.1 hx with hx | hx
          · exact hT x hx
          · rw [List.mem_singleton.1 hx]
            show u.length ≤ _
            omega
        · rw [List.map_append, List.nodup_append]
          refine ⟨hn, by simp, fun x hx y hy => ?_⟩
          rw [List.map_singleton, List.mem_singleton] at hy
          rintro rfl
          rw [hy] at hx
          exact lookB_none h4 hx
      · rw [h4]
        refine Ev.neg (by omega) (Ev.pos (by omega) (Ev.pos (by omega) ?_))
        rw [rdT30_get hj]
        refine Ev.bind (sameRow5 _ u (by have := hT _ (List.getElem_mem hj); omega)) ?_
        by_cases he : l[j].f1 = u
        · simp only [if_pos he]
          exact Ev.pos (by simpa using he) (ih (i + 1) n (a + u.length) l (by omega) hp'.1 (by rw [htd2]; exact hv) (by omega) hk hT hn)
        · simp only [if_neg he]
          exact Ev.neg (by simpa using he) (Ev.now _)
theorem refMatch (sig : List S85) (hF : sigFine sig) (p t : List Int) (hp : p.length ≤ 17592186044416) (ht : t.length < 17592186044416) : Ev (fun k => lodestoneref05_Match.f k sig p t) (matchF sig p t) := by
  unfold lodestoneref05_Match.f
  refine Ev.bind (refCheck sig hF p hp) ?_
  rw [matchF]
  by_cases h1 : chk sig p = 0
  · refine Ev.pos h1 (Ev.bind (refCheck sig hF t (by omega)) ?_)
    by_cases h2 : chk sig t = 0
    · rw [if_pos ⟨h1, h2⟩]
      refine Ev.pos h2 ?_
      obtain ⟨hse, htp⟩ := chk_ok h1
      obtain ⟨_, htt⟩ := chk_ok h2
      have h := refInner_l0 sig (sig_ar hse) (sig_len hse) p t hp ht p.length 0 1 0 [] (by omega) htp htt (Nat.zero_le _) (fun x hx => by simp at hx) (fun x hx => by simp at hx) List.nodup_nil
      exact Ev.bind (f := fun _ x => some (x.1, x.2)) (show Ev (fun k => lodestoneref05_Inner.f k sig p t) _ from h) (Ev.now _)
    · rw [if_neg (fun h => h2 h.2)]
      exact Ev.neg h2 (Ev.now _)
  · rw [if_neg (fun h => h1 h.1)]
    exact Ev.neg h1 (Ev.now _)
end Go.Proofs.YtjckddaaeiffpaaDoor.Z
