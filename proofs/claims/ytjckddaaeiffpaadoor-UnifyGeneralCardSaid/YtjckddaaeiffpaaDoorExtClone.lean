/- slices.Clone at rows of whole numbers: a given function of the print, out of the shelf's contracts. -/
import Derived.Test.YtjckddaaeiffpaaDoorZ0
import Derived.Test.YtjckddaaeiffpaaDoorExtTree
import Derived.Test.YtjckddaaeiffpaaDoorShelf
import Derived.Outline
namespace Go.Proofs.YtjckddaaeiffpaaDoor.Z
open Go.RowKit Go.Proofs.YtjckddaaeiffpaaDoorW.PrintWords Go.Proofs.YtjckddaaeiffpaaDoorW.PrintLast Go.Proofs.YtjckddaaeiffpaaDoorW.PrintMore
attribute [local go_sem] max2_int min2_int max_two min_two max_three min_three max_four min_four   -- for this text's walks alone
set_option linter.unusedVariables false
set_option linter.unusedSimpArgs false

noncomputable def slices_Clone_int_int.f (l0 : List Int) : Option (List Int) := if l0.length ≤ 17592186044416 then some l0 else none
theorem addr_add (b off j : Nat) : (⟨b, off, none⟩ : Addr).add j = ⟨b, off + j, none⟩ := by
  cases j with
  | zero => simp [Addr.add]
  | succ j => simp [Addr.add]
theorem cell_spot {w : World} {a : Addr} {v : Value} (h : w.cell? a = some v) : a.spot = none := by
  cases hs : a.spot with
  | none => rfl
  | some x =>
    exfalso
    simp only [World.cell?, hs, Option.isSome_some, if_true] at h
    split at h <;> simp at h
theorem slices_Clone_int_int.calls (A0 : Option Addr) (c0 : Nat) (l0 : List Int) (r : List Int) (w : World) (hr0 : Kd.C (Kd.int .i64) w A0 l0.length l0) (hc0 : l0.length ≤ c0) (h : slices_Clone_int_int.f l0 = some r) :
    Calls Tryd.prog 32 #[.slice A0 l0.length c0] w fun e w' => ∃ v0_ : Value, e = .returned (v0_) ∧ (Kd.int .i64).R 3 w' w.heap.size (fun _ => True) v0_ r ∧ Below w.heap.size w w' := by
  have hg : l0.length ≤ 17592186044416 := by
    apply Classical.byContradiction
    intro hn
    rw [slices_Clone_int_int.f, if_neg hn] at h
    simp at h
  rw [slices_Clone_int_int.f, if_pos hg] at h
  obtain rfl := Option.some.inj h
  clear h
  cases A0 with
  | none =>
    have hl : l0 = [] := by
      cases l0 with
      | nil => rfl
      | cons a r =>
        obtain ⟨ad, e, _⟩ := hr0.2.2 (by simp)
        cases e
    subst hl
    exact (Any.slices_Clone_int_nil Tryd.laysClone 0 c0 w).mono (by
      rintro e w' ⟨rfl, rfl⟩
      exact ⟨_, rfl, Kd.R_nil _ _ _ _ _, Below.refl _ _⟩)
  | some ad =>
    cases l0 with
    | nil =>
      exact (Any.slices_Clone_int_zero Tryd.laysClone ad c0 w).mono (by
        rintro e w' ⟨v, rfl, ho, _, hb⟩
        exact ⟨v, rfl, Kd.R_of_own (enc := Value.int .i64) (show w'.ownsRow w.heap.size 3 1 v ([] : List Int).length (encs (Value.int .i64) []) from ho) (fun _ _ => trivial), hb⟩)
    | cons x l =>
      have hs : ad.spot = none := by
        obtain ⟨ad', e, hx⟩ := at_L_int hr0 0 (by omega) (by simp)
        cases e
        have := cell_spot hx
        simpa [Addr.add] using this
      obtain ⟨b, off, sp⟩ := ad
      simp only at hs
      subst hs
      exact (Any.slices_Clone_int Tryd.laysClone b off (x :: l).length c0 (x :: l) w (Nat.le_refl _) (by omega) (fun j hj => by
        obtain ⟨ad', e, hx⟩ := at_L_int hr0 (j : Int) (by omega) (by omega)
        cases e
        rw [Int.toNat_natCast] at hx
        rw [addr_add] at hx
        exact hx)).mono (by
        rintro e w' ⟨v, rfl, ho, _, hb⟩
        rw [List.take_length] at ho
        exact ⟨v, rfl, Kd.R_of_own (enc := Value.int .i64) ho (fun _ _ => trivial), hb⟩)
end Go.Proofs.YtjckddaaeiffpaaDoor.Z
