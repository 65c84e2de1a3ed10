/- Rounds: small steps; the reference's rows of binds: (ref05.bound, sameRow, sorted) as plain lists. -/
import Derived.Test.YtjckddaaeiffpaaDoorZ0
import Derived.Test.YtjckddaaeiffpaaDoorZ0b
namespace Go.Proofs.YtjckddaaeiffpaaDoor.Z
open Go.RowKit Go.Proofs.YtjckddaaeiffpaaDoorW.PrintWords Go.Proofs.YtjckddaaeiffpaaDoorW.PrintLast Go.Proofs.YtjckddaaeiffpaaDoorW.PrintMore
attribute [local go_sem] max2_int min2_int max_two min_two max_three min_three max_four min_four   -- for this text's walks alone
set_option linter.unusedVariables false
set_option linter.unusedSimpArgs false

theorem Ev.pos {α : Type} {c : Prop} [Decidable c] {f g : Nat → Option α} {r : α} (h : c) (k : Ev f r) : Ev (fun n => if c then f n else g n) r := Ev.congr (fun _ => if_pos h) k
theorem Ev.neg {α : Type} {c : Prop} [Decidable c] {f g : Nat → Option α} {r : α} (h : ¬ c) (k : Ev g r) : Ev (fun n => if c then f n else g n) r := Ev.congr (fun _ => if_neg h) k
theorem Ev.val {α : Type} {a : Option α} {r : α} (h : a = some r) : Ev (fun _ => a) r := ⟨0, fun _ _ => h⟩
theorem Ev.vbind {α β : Type} {a : Option α} {f : Nat → α → Option β} {x : α} {r : β} (h : a = some x) (k : Ev (fun n => f n x) r) : Ev (fun n => a.bind (f n)) r := Ev.congr (fun n => by rw [h]; rfl) k
theorem Ev.to {α : Type} {f : Nat → Option α} {r r' : α} (h : Ev f r) (e : r = r') : Ev f r' := e ▸ h
theorem w64' {x : Int} (h0 : -9223372036854775808 ≤ x) (h1 : x ≤ 9223372036854775807) : wrap64 x = x := IntWalk.wrap64_in x ⟨h0, h1⟩
theorem w64_succ {i n : Nat} (h : i < n) (hn : n ≤ 9223372036854775807) : wrap64 ((i : Int) + 1) = ((i + 1 : Nat) : Int) := by rw [w64' (by omega) (by omega)]; omega
theorem rd_get {t : List Int} {a : Nat} (h : a < t.length) : rd t a = t[a] := by
  unfold rd
  rw [Int.toNat_natCast, List.getD_eq_getElem?_getD, List.getElem?_eq_getElem h]
  rfl
theorem rdT30_get {t : List S30} {a : Nat} (h : a < t.length) : rd_T30 t a = t[a] := by
  unfold rd_T30
  rw [Int.toNat_natCast, List.getD_eq_getElem?_getD, List.getElem?_eq_getElem h]
  rfl
/-! #### sameRow -/
theorem sameRow5_l0 (a b : List Int) (hl : a.length = b.length) (hm : a.length ≤ 9223372036854775807) : ∀ (d i : Nat), a.length = i + d → Ev (fun k => lodestoneref05_sameRow.l0 k a b i) (decide (a.drop i = b.drop i)) := by
  intro d
  induction d with
  | zero =>
    intro i hd
    refine Ev.step (fun k => lodestoneref05_sameRow.l0.eq_2 _ _ _ k) (Ev.neg (by omega) ?_)
    rw [List.drop_eq_nil_of_le (by omega), List.drop_eq_nil_of_le (by omega)]
    exact Ev.now _
  | succ d ih =>
    intro i hd
    have hi : i < a.length := by omega
    have hj : i < b.length := by omega
    refine Ev.step (fun k => lodestoneref05_sameRow.l0.eq_2 _ _ _ k) (Ev.pos (by omega) (Ev.pos (by omega) (Ev.pos (by omega) ?_)))
    rw [rd_get hi, rd_get hj, w64_succ hi hm, List.drop_eq_getElem_cons hi, List.drop_eq_getElem_cons hj]
    by_cases e : a[i] = b[i]
    · exact Ev.pos e (Ev.to (ih (i + 1) (by omega)) (by rw [decide_eq_decide]; simp only [List.cons.injEq, e, true_and]))
    · exact Ev.neg e (Ev.to (Ev.now false) (by rw [eq_comm, decide_eq_false_iff_not]; simp only [List.cons.injEq, e, false_and, not_false_iff]))
theorem sameRow5 (a b : List Int) (hm : a.length ≤ 9223372036854775807) : Ev (fun k => lodestoneref05_sameRow.f k a b) (decide (a = b)) := by
  unfold lodestoneref05_sameRow.f
  by_cases hl : a.length = b.length
  · exact Ev.pos (by omega) (sameRow5_l0 a b hl hm a.length 0 (by omega))
  · exact Ev.neg (by omega) (Ev.to (Ev.now false) (by rw [eq_comm, decide_eq_false_iff_not]; exact fun e => hl (by rw [e])))
/-! #### bound -/
theorem bound5_l0 (l : List S30) (v : Int) (hm : l.length ≤ 9223372036854775807) : ∀ (d i : Nat), l.length = i + d →
    ∃ r : Int, Ev (fun k => lodestoneref05_bound.l0 k l v i) r ∧ ((r = -1 ∧ ∀ x, x ∈ l.drop i → x.f0 ≠ v) ∨ ∃ j : Nat, r = j ∧ i ≤ j ∧ ∃ h : j < l.length, l[j].f0 = v ∧ ∀ m (h' : m < l.length), i ≤ m → m < j → l[m].f0 ≠ v) := by
  intro d
  induction d with
  | zero =>
    intro i hd
    refine ⟨-1, Ev.step (fun k => lodestoneref05_bound.l0.eq_2 _ _ _ k) (Ev.neg (by omega) (Ev.now _)), .inl ⟨rfl, ?_⟩⟩
    rw [List.drop_eq_nil_of_le (by omega)]
    simp
  | succ d ih =>
    intro i hd
    have hi : i < l.length := by omega
    by_cases e : l[i].f0 = v
    · refine ⟨i, Ev.step (fun k => lodestoneref05_bound.l0.eq_2 _ _ _ k) (Ev.pos (by omega) (Ev.pos (by omega) (Ev.pos (by rw [rdT30_get hi]; exact e) (Ev.now _)))), .inr ⟨i, rfl, Nat.le_refl _, hi, e, fun m h' h1 h2 => by omega⟩⟩
    · obtain ⟨r, hr, h⟩ := ih (i + 1) (by omega)
      refine ⟨r, Ev.step (fun k => lodestoneref05_bound.l0.eq_2 _ _ _ k) (Ev.pos (by omega) (Ev.pos (by omega) (Ev.neg (by rw [rdT30_get hi]; exact e) ?_))), ?_⟩
      · rw [w64_succ hi hm]
        exact hr
      · rcases h with ⟨h1, h2⟩ | ⟨j, h1, h2, h3, h4, h5⟩
        · refine .inl ⟨h1, fun x hx => ?_⟩
          rw [List.drop_eq_getElem_cons hi] at hx
          rcases List.mem_cons.1 hx with rfl | hx
          · exact e
          · exact h2 x hx
        · refine .inr ⟨j, h1, by omega, h3, h4, fun m h' h6 h7 => ?_⟩
          by_cases hmi : m = i
          · subst hmi; exact e
          · exact h5 m h' (by omega) h7
/-! #### sorted -/
theorem sorted5_l1 (l s : List S30) (m : Nat) (hp : s.Perm l) (hs : s.Pairwise (fun a b => a.f0 < b.f0)) (hm : m < s.length) (hl : l.length < 4398046511104) (hN : ∀ r, Ev (fun k => lodestoneref05_sorted.l0 k l (s.take (m + 1))) r → Ev (fun k => lodestoneref05_sorted.l0 k l (s.take m ++ [s[m]])) r) (R : List S30) (hR : Ev (fun k => lodestoneref05_sorted.l0 k l (s.take (m + 1))) R) :
    ∀ (d i : Nat) (b : Int), l.length = i + d →
      ((b = -1 ∧ ∀ j (h : j < l.length), j < i → ∃ q, ∃ hq : q < s.length, q < m ∧ l[j] = s[q]) ∨ ∃ c : Nat, b = c ∧ ∃ hc : c < l.length, (∃ q, ∃ hq : q < s.length, m ≤ q ∧ l[c] = s[q]) ∧ ∀ j (h : j < l.length), j < i → (∃ q, ∃ hq : q < s.length, q < m ∧ l[j] = s[q]) ∨ l[c].f0 ≤ l[j].f0) →
      Ev (fun k => lodestoneref05_sorted.l1 k l (s.take m) b i) R := by
  have hlen : s.length = l.length := hp.length_eq
  have mono : ∀ p q (hp : p < s.length) (hq : q < s.length), p < q → s[p].f0 < s[q].f0 := fun p q hp hq h => List.pairwise_iff_getElem.1 hs p q hp hq h
  have monole : ∀ p q (hp : p < s.length) (hq : q < s.length), p ≤ q → s[p].f0 ≤ s[q].f0 := fun p q hp hq h => by
    rcases Nat.lt_or_eq_of_le h with h | rfl
    · have := mono p q hp hq h; omega
    · omega
  have find : ∀ j (h : j < l.length), ∃ q, ∃ hq : q < s.length, l[j] = s[q] := fun j h => by
    obtain ⟨q, hq, e⟩ := List.getElem_of_mem (hp.mem_iff.2 (List.getElem_mem h))
    exact ⟨q, hq, e.symm⟩
  have htl : (s.take m).length = m := by rw [List.length_take]; omega
  intro d
  induction d with
  | zero =>
    intro i b hd hb
    refine Ev.step (fun k => lodestoneref05_sorted.l1.eq_2 _ _ _ _ k) (Ev.neg (by omega) ?_)
    -- s[m] stands in l: so b is its place
    obtain ⟨j, hj, ej⟩ := List.getElem_of_mem (hp.mem_iff.1 (List.getElem_mem hm))
    rcases hb with ⟨rfl, hb⟩ | ⟨c, rfl, hc, ⟨q, hq, hmq, ecq⟩, hb⟩
    · exfalso
      obtain ⟨q, hq, h1, h2⟩ := hb j hj (by omega)
      have := mono q m hq hm h1
      rw [← ej, h2] at this
      omega
    · have hcm : l[c] = s[m] := by
        rcases hb j hj (by omega) with ⟨q', hq', h1, h2⟩ | h
        · exfalso
          have := mono q' m hq' hm h1
          rw [← ej, h2] at this
          omega
        · rw [ej, ecq] at h
          have : q = m := by
            rcases Nat.lt_or_eq_of_le hmq with h' | h'
            · have := mono m q hm hq h'; omega
            · exact h'.symm
          subst this
          exact ecq
      refine Ev.pos (by omega) (Ev.pos (by omega) (Ev.pos (by omega) ?_))
      rw [rdT30_get hc, hcm]
      exact hN R hR
  | succ d ih =>
    intro i b hd hb
    have hi : i < l.length := by omega
    have hw := w64_succ hi (by omega)
    obtain ⟨qi, hqi, ei⟩ := find i hi
    refine Ev.step (fun k => lodestoneref05_sorted.l1.eq_2 _ _ _ _ k) (Ev.pos (by omega) ?_)
    rw [hw, htl]
    -- what becomes of the best place
    have keep : qi < m → Ev (fun k => lodestoneref05_sorted.l1 k l (s.take m) b ((i + 1 : Nat) : Int)) R := fun h => ih (i + 1) b (by omega) (by
      rcases hb with ⟨rfl, hb⟩ | ⟨c, rfl, hc, hq, hb⟩
      · refine .inl ⟨rfl, fun j hj hji => ?_⟩
        by_cases e : j = i
        · subst e; exact ⟨qi, hqi, h, ei⟩
        · exact hb j hj (by omega)
      · refine .inr ⟨c, rfl, hc, hq, fun j hj hji => ?_⟩
        by_cases e : j = i
        · subst e; exact .inl ⟨qi, hqi, h, ei⟩
        · exact hb j hj (by omega))
    have better : m ≤ qi → Ev (fun k => if b < 0 then lodestoneref05_sorted.l1 k l (s.take m) i ((i + 1 : Nat) : Int) else if 0 ≤ b then if b < (l.length : Int) then if (rd_T30 l i).f0 < (rd_T30 l b).f0 then lodestoneref05_sorted.l1 k l (s.take m) i ((i + 1 : Nat) : Int) else lodestoneref05_sorted.l1 k l (s.take m) b ((i + 1 : Nat) : Int) else none else none) R := fun h => by
      rcases hb with ⟨rfl, hb⟩ | ⟨c, rfl, hc, hq, hb⟩
      · refine Ev.pos (by omega) (ih (i + 1) i (by omega) (.inr ⟨i, rfl, hi, ⟨qi, hqi, h, ei⟩, fun j hj hji => ?_⟩))
        by_cases e : j = i
        · subst e; exact .inr (Int.le_refl _)
        · exact .inl (hb j hj (by omega))
      · refine Ev.neg (by omega) (Ev.pos (by omega) (Ev.pos (by omega) ?_))
        rw [rdT30_get hi, rdT30_get hc]
        by_cases hlt : l[i].f0 < l[c].f0
        · refine Ev.pos hlt (ih (i + 1) i (by omega) (.inr ⟨i, rfl, hi, ⟨qi, hqi, h, ei⟩, fun j hj hji => ?_⟩))
          by_cases e : j = i
          · subst e; exact .inr (Int.le_refl _)
          · rcases hb j hj (by omega) with h' | h'
            · exact .inl h'
            · exact .inr (by omega)
        · refine Ev.neg hlt (ih (i + 1) c (by omega) (.inr ⟨c, rfl, hc, hq, fun j hj hji => ?_⟩))
          by_cases e : j = i
          · subst e; exact .inr (by omega)
          · exact hb j hj (by omega)
    by_cases hm0 : m = 0
    · refine Ev.pos (by omega) ?_
      have := better (by omega)
      rcases hb with ⟨rfl, hb⟩ | ⟨c, rfl, hc, hq, hb⟩
      · exact Ev.congr (fun k => by simp only [if_pos (show (-1 : Int) < 0 by omega)]) this
      · exact Ev.congr (fun k => by simp only [if_neg (show ¬ ((c : Int) < 0) by omega), if_pos (show (0 : Int) ≤ (i : Int) by omega)]) this
    · have hl1 : wrap64 ((m : Int) - 1) = ((m - 1 : Nat) : Int) := by rw [w64' (by omega) (by omega)]; omega
      have hlast : (rd_T30 (s.take m) ((m - 1 : Nat) : Int)) = s[m - 1] := by
        rw [rdT30_get (by omega), List.getElem_take]
      refine Ev.neg (by omega) (Ev.pos (by omega) ?_)
      rw [hl1]
      refine Ev.pos (by omega) (Ev.pos (by omega) ?_)
      rw [hlast, rdT30_get hi]
      by_cases hgt : l[i].f0 > s[m - 1].f0
      · refine Ev.pos hgt ?_
        have hmq : m ≤ qi := by
          apply Classical.byContradiction
          intro hn
          have := monole qi (m - 1) hqi (by omega) (by omega)
          rw [ei] at hgt
          omega
        have := better hmq
        rwa [rdT30_get hi] at this
      · refine Ev.neg hgt (keep ?_)
        apply Classical.byContradiction
        intro hn
        have := mono (m - 1) qi (by omega) hqi (by omega)
        rw [ei] at hgt
        omega
theorem sorted5 (l s : List S30) (hp : s.Perm l) (hs : s.Pairwise (fun a b => a.f0 < b.f0)) (hl : l.length < 4398046511104) : Ev (fun k => lodestoneref05_sorted.f k l) s := by
  have hlen : s.length = l.length := hp.length_eq
  have go : ∀ (d m : Nat), s.length = m + d → Ev (fun k => lodestoneref05_sorted.l0 k l (s.take m)) s := by
    intro d
    induction d with
    | zero =>
      intro m hd
      refine Ev.step (fun k => lodestoneref05_sorted.l0.eq_2 _ _ k) (Ev.neg (by rw [List.length_take]; omega) ?_)
      rw [List.take_of_length_le (by omega)]
      exact Ev.now _
    | succ d ih =>
      intro m hd
      have hm : m < s.length := by omega
      refine Ev.step (fun k => lodestoneref05_sorted.l0.eq_2 _ _ k) (Ev.pos (by rw [List.length_take]; omega) ?_)
      refine sorted5_l1 l s m hp hs hm hl (fun r h => ?_) s (ih (m + 1) (by omega)) l.length 0 (-1) (by omega) (.inl ⟨rfl, fun j _ h => by omega⟩)
      rwa [List.take_succ_eq_append_getElem hm] at h
  have := go s.length 0 (by omega)
  rwa [List.take_zero] at this
end Go.Proofs.YtjckddaaeiffpaaDoor.Z
