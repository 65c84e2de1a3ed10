-- Printed by drv.py (wip), which runs the kit's print over functions some of which are given. Lean checks it.
import Derived.Test.YtjckddaaeiffpaaDoorZ0
namespace Go.Proofs.YtjckddaaeiffpaaDoor.Z
open Go.RowKit Go.Proofs.YtjckddaaeiffpaaDoorW.PrintWords Go.Proofs.YtjckddaaeiffpaaDoorW.PrintLast Go.Proofs.YtjckddaaeiffpaaDoorW.PrintMore
attribute [local go_sem] max2_int min2_int max_two min_two max_three min_three max_four min_four   -- for this text's walks alone
set_option linter.unusedVariables false
set_option linter.unusedSimpArgs false

/-! ### lodestoneref03_End: function 57 -/
def lodestoneref03_End.l0 : Nat → List (S85) → List Int → Int → Int → Option (Int)
  | 0, _, _, _, _ => none
  | k + 1, x0, x1, x2, x7 => if x7 > 0 then (if 0 ≤ x2 then (if x2 < (x1.length : Int) then (if (rd x1 x2) ≥ 0 then (if 0 ≤ (rd x1 x2) then (if (rd x1 x2) < (x0.length : Int) then (lodestoneref03_End.l0 k x0 x1 (wrap64 (x2 + 1)) (wrap64 ((wrap64 (x7 - 1)) + ((rd_T85 x0 (rd x1 x2)).f1)))) else (none)) else (none)) else (lodestoneref03_End.l0 k x0 x1 (wrap64 (x2 + 1)) (wrap64 (x7 - 1)))) else (none)) else (none)) else (some x2)
def lodestoneref03_End.f (k : Nat) (l0 : List (S85)) (l1 : List Int) (a2 : Int) : Option (Int) := lodestoneref03_End.l0 k l0 l1 a2 1
theorem lodestoneref03_End.mono_l : ∀ k, (∀ y0 y1 y2 y3, LeO (lodestoneref03_End.l0 k y0 y1 y2 y3) (lodestoneref03_End.l0 (k + 1) y0 y1 y2 y3))
  | 0 => fun _ _ _ _ r h => by simp [lodestoneref03_End.l0] at h
  | k + 1 => by
    have ih0 := lodestoneref03_End.mono_l k
    · intro y0 y1 y2 y3
      unfold lodestoneref03_End.l0
      repeat' first
      | (with_reducible exact ih0 _ _ _ _)
      | (with_reducible exact LeO.refl _)
      | (with_reducible exact LeO.none _)
      | (with_reducible refine LeO.ite ?_ ?_)
      | (with_reducible refine LeO.bind ?_ (fun _ => ?_))
      | exact ih0 _ _ _ _
      | exact LeO.none _
      | refine LeO.ite ?_ ?_
      | refine LeO.bind ?_ (fun _ => ?_)
theorem lodestoneref03_End.mono : ∀ a0 a1 a2 k, LeO (lodestoneref03_End.f k a0 a1 a2) (lodestoneref03_End.f (k + 1) a0 a1 a2) := by
  intro a0 a1 a2 k
  have ih0 := lodestoneref03_End.mono_l k
  unfold lodestoneref03_End.f
  repeat' first
      | (with_reducible exact ih0 _ _ _ _)
      | (with_reducible exact LeO.refl _)
      | (with_reducible exact LeO.none _)
      | (with_reducible refine LeO.ite ?_ ?_)
      | (with_reducible refine LeO.bind ?_ (fun _ => ?_))
      | exact ih0 _ _ _ _
      | exact LeO.none _
      | refine LeO.ite ?_ ?_
      | refine LeO.bind ?_ (fun _ => ?_)
set_option maxHeartbeats 8000000 in
set_option maxRecDepth 100000 in
theorem lodestoneref03_End.calls (k : Nat) (A0 : Option Addr) (c0 : Nat) (l0 : List (S85)) (A1 : Option Addr) (c1 : Nat) (l1 : List Int) (a2 : Int) (r : Int) (w : World) (hr0 : Kd.C k85 w A0 l0.length l0) (hc0 : l0.length ≤ c0) (hr1 : Kd.C (Kd.int .i64) w A1 l1.length l1) (hc1 : l1.length ≤ c1) (h : lodestoneref03_End.f k l0 l1 a2 = some r) :
    Calls Tryd.prog 57 #[.slice A0 l0.length c0, .slice A1 l1.length c1, .int .i64 a2] w fun e w' => e = .returned (.int .i64 r) ∧ Drawn0 w w' := by
  have HR0 := Aside0.mk hr0
  have HC0 := Aside0.mk hc0
  clear hr0 hc0
  have HR1 := Aside0.mk hr1
  have HC1 := Aside0.mk hc1
  clear hr1 hc1
  have H : (lodestoneref03_End.l0 k l0 l1 a2 1) = some r := h
  clear h
  have H' := Aside0.mk H
  clear H
  go_enter Tryd.func57, Tryd.ntmps57
  go_wp2
  go_loopg [2, 7] k (fun kq v2 v7 w' => ∃ (x2_1 : Int) (x7_1 : Int), v2 = .int .i64 x2_1 ∧ v7 = .int .i64 x7_1 ∧ Aside0 (lodestoneref03_End.l0 kq l0 l1 x2_1 x7_1 = some r) ∧ Aside0 (kq ≤ k) ∧ Drawn0 w w')
  case atStart => exact ⟨(a2), (1), (by first | rfl | (simp; done) | (simp [*]; done)), (by first | rfl | (simp; done) | (simp [*]; done)), H', ⟨Nat.le_refl _⟩, by repeat (first | exact Drawn0.refl _ | apply Drawn0.step)⟩
  case round =>
    clear H'
    try clear c1
    try clear p2
    obtain ⟨x2_1, x7_1, rfl, rfl, HA, HK1, ⟨m1, rfl⟩⟩ := hrel
    cases gk with
    | zero => exact absurd HA.out (by simp [lodestoneref03_End.l0])
    | succ k1 =>
      have H := HA.out
      clear HA
      simp only [lodestoneref03_End.l0] at H
      by_cases c4 : x7_1 > 0
      · rw [if_pos c4] at H
        have c4b0 : decide (0 < x7_1) = true := decide_eq_true c4
        clear c4
        by_cases c5 : 0 ≤ x2_1
        · rw [if_pos c5] at H
          have c5b0 : decide (0 ≤ x2_1) = true := decide_eq_true c5
          clear c5
          by_cases c6 : x2_1 < (l1.length : Int)
          · rw [if_pos c6] at H
            have c6b0 : decide (x2_1 < (l1.length : Int)) = true := decide_eq_true c6
            clear c6
            by_cases c7 : (rd l1 x2_1) ≥ 0
            · rw [if_pos c7] at H
              have c7b0 : decide (0 ≤ (rd l1 x2_1)) = true := decide_eq_true c7
              clear c7
              by_cases c8 : 0 ≤ (rd l1 x2_1)
              · rw [if_pos c8] at H
                have c8b0 : decide (0 ≤ (rd l1 x2_1)) = true := decide_eq_true c8
                clear c8
                by_cases c9 : (rd l1 x2_1) < (l0.length : Int)
                · rw [if_pos c9] at H
                  have c9b0 : decide ((rd l1 x2_1) < (l0.length : Int)) = true := decide_eq_true c9
                  clear c9
                  have H' := Aside0.mk H
                  clear H
                  have p117 : 0 ≤ (x2_1 : Int) := of_decide_eq_true (by first | (with_reducible assumption) | assumption)
                  have q117 : x2_1 < (l1.length : Int) := of_decide_eq_true (by first | (with_reducible assumption) | assumption)
                  obtain ⟨ad117, e117, hx117_0⟩ := Kd.at_int HR1.out x2_1 p117 q117
                  cases e117
                  replace p117 := eq_true p117
                  replace q117 := eq_true q117
                  have p118 : 0 ≤ (x2_1 : Int) := of_decide_eq_true (by first | (with_reducible assumption) | assumption)
                  have q118 : x2_1 < (l1.length : Int) := of_decide_eq_true (by first | (with_reducible assumption) | assumption)
                  obtain ⟨ad118, e118, hx118_0⟩ := Kd.at_int HR1.out x2_1 p118 q118
                  obtain rfl : ad117 = ad118 := (by injection e118)
                  replace p118 := eq_true p118
                  replace q118 := eq_true q118
                  have p119 : 0 ≤ ((rd l1 x2_1) : Int) := of_decide_eq_true (by first | (with_reducible assumption) | assumption)
                  have q119 : (rd l1 x2_1) < (l0.length : Int) := of_decide_eq_true (by first | (with_reducible assumption) | assumption)
                  obtain ⟨ad119, e119, hx119_0, hx119_1⟩ := at_T85 HR0.out (rd l1 x2_1) p119 q119
                  cases e119
                  replace p119 := eq_true p119
                  replace q119 := eq_true q119
                  go_wp2
                  go_roundg k1
                  case measure => have := HK1.out; omega
                  case rel => exact ⟨(wrap64 (x2_1 + 1)), (wrap64 ((wrap64 (x7_1 - 1)) + ((rd_T85 l0 (rd l1 x2_1)).f1))), (by first | rfl | (simp; done) | (simp [*]; done)), (by first | rfl | (simp; done) | (simp [*]; done)), H', ⟨by have := HK1.out; omega⟩, by repeat (first | exact Drawn0.refl _ | apply Drawn0.step)⟩
                · rw [if_neg c9] at H
                  exact absurd H (by simp)
              · rw [if_neg c8] at H
                exact absurd H (by simp)
            · rw [if_neg c7] at H
              have c7b0 : decide (0 ≤ (rd l1 x2_1)) = false := decide_eq_false c7
              clear c7
              have H' := Aside0.mk H
              clear H
              have p117 : 0 ≤ (x2_1 : Int) := of_decide_eq_true (by first | (with_reducible assumption) | assumption)
              have q117 : x2_1 < (l1.length : Int) := of_decide_eq_true (by first | (with_reducible assumption) | assumption)
              obtain ⟨ad117, e117, hx117_0⟩ := Kd.at_int HR1.out x2_1 p117 q117
              cases e117
              replace p117 := eq_true p117
              replace q117 := eq_true q117
              go_wp2
              go_roundg k1
              case measure => have := HK1.out; omega
              case rel => exact ⟨(wrap64 (x2_1 + 1)), (wrap64 (x7_1 - 1)), (by first | rfl | (simp; done) | (simp [*]; done)), (by first | rfl | (simp; done) | (simp [*]; done)), H', ⟨by have := HK1.out; omega⟩, by repeat (first | exact Drawn0.refl _ | apply Drawn0.step)⟩
          · rw [if_neg c6] at H
            exact absurd H (by simp)
        · rw [if_neg c5] at H
          exact absurd H (by simp)
      · rw [if_neg c4] at H
        have c4b0 : decide (0 < x7_1) = false := decide_eq_false c4
        clear c4
        obtain rfl := Option.some.inj H
        go_wp2
        go_ret
        exact ⟨by first | rfl | (simp; done) | (simp [*]; done), by repeat (first | exact Drawn0.refl _ | apply Drawn0.step)⟩

/-! ### lodestoneref05_bound: function 58 -/
def lodestoneref05_bound.l0 : Nat → List (S30) → Int → Int → Option (Int)
  | 0, _, _, _ => none
  | k + 1, x0, x1, x5 => if x5 < (x0.length : Int) then (if 0 ≤ x5 then (if ((rd_T30 x0 x5).f0) = x1 then (some x5) else (lodestoneref05_bound.l0 k x0 x1 (wrap64 (x5 + 1)))) else (none)) else (some (-1))
def lodestoneref05_bound.f (k : Nat) (l0 : List (S30)) (a1 : Int) : Option (Int) := lodestoneref05_bound.l0 k l0 a1 0
theorem lodestoneref05_bound.mono_l : ∀ k, (∀ y0 y1 y2, LeO (lodestoneref05_bound.l0 k y0 y1 y2) (lodestoneref05_bound.l0 (k + 1) y0 y1 y2))
  | 0 => fun _ _ _ r h => by simp [lodestoneref05_bound.l0] at h
  | k + 1 => by
    have ih0 := lodestoneref05_bound.mono_l k
    · intro y0 y1 y2
      unfold lodestoneref05_bound.l0
      repeat' first
      | (with_reducible exact ih0 _ _ _)
      | (with_reducible exact LeO.refl _)
      | (with_reducible exact LeO.none _)
      | (with_reducible refine LeO.ite ?_ ?_)
      | (with_reducible refine LeO.bind ?_ (fun _ => ?_))
      | exact ih0 _ _ _
      | exact LeO.none _
      | refine LeO.ite ?_ ?_
      | refine LeO.bind ?_ (fun _ => ?_)
theorem lodestoneref05_bound.mono : ∀ a0 a1 k, LeO (lodestoneref05_bound.f k a0 a1) (lodestoneref05_bound.f (k + 1) a0 a1) := by
  intro a0 a1 k
  have ih0 := lodestoneref05_bound.mono_l k
  unfold lodestoneref05_bound.f
  repeat' first
      | (with_reducible exact ih0 _ _ _)
      | (with_reducible exact LeO.refl _)
      | (with_reducible exact LeO.none _)
      | (with_reducible refine LeO.ite ?_ ?_)
      | (with_reducible refine LeO.bind ?_ (fun _ => ?_))
      | exact ih0 _ _ _
      | exact LeO.none _
      | refine LeO.ite ?_ ?_
      | refine LeO.bind ?_ (fun _ => ?_)
set_option maxHeartbeats 8000000 in
set_option maxRecDepth 100000 in
theorem lodestoneref05_bound.calls (k : Nat) (A0 : Option Addr) (c0 : Nat) (l0 : List (S30)) (a1 : Int) (r : Int) (w : World) (hr0 : Kd.C k30 w A0 l0.length l0) (hc0 : l0.length ≤ c0) (h : lodestoneref05_bound.f k l0 a1 = some r) :
    Calls Tryd.prog 58 #[.slice A0 l0.length c0, .int .i64 a1] w fun e w' => e = .returned (.int .i64 r) ∧ Drawn0 w w' := by
  have HR0 := Aside0.mk hr0
  have HC0 := Aside0.mk hc0
  clear hr0 hc0
  have H : (lodestoneref05_bound.l0 k l0 a1 0) = some r := h
  clear h
  have H' := Aside0.mk H
  clear H
  go_enter Tryd.func58, Tryd.ntmps58
  go_wp2
  go_loopg [5] k (fun kq v5 w' => ∃ (x5_1 : Int), v5 = .int .i64 x5_1 ∧ Aside0 (lodestoneref05_bound.l0 kq l0 a1 x5_1 = some r) ∧ Aside0 (kq ≤ k) ∧ Drawn0 w w')
  case atStart => exact ⟨(0), (by first | rfl | (simp; done) | (simp [*]; done)), H', ⟨Nat.le_refl _⟩, by repeat (first | exact Drawn0.refl _ | apply Drawn0.step)⟩
  case round =>
    clear H'
    try clear p2
    obtain ⟨x5_1, rfl, HA, HK1, ⟨m1, rfl⟩⟩ := hrel
    cases gk with
    | zero => exact absurd HA.out (by simp [lodestoneref05_bound.l0])
    | succ k1 =>
      have H := HA.out
      clear HA
      simp only [lodestoneref05_bound.l0] at H
      by_cases c3 : x5_1 < (l0.length : Int)
      · rw [if_pos c3] at H
        have c3b0 : decide (x5_1 < (l0.length : Int)) = true := decide_eq_true c3
        clear c3
        by_cases c4 : 0 ≤ x5_1
        · rw [if_pos c4] at H
          have c4b0 : decide (0 ≤ x5_1) = true := decide_eq_true c4
          clear c4
          by_cases c5 : ((rd_T30 l0 x5_1).f0) = a1
          · rw [if_pos c5] at H
            have c5b0 : (((rd_T30 l0 x5_1).f0) == a1) = true := beq_iff_eq.mpr c5
            have c5b1 : (((rd_T30 l0 x5_1).f0) != a1) = false := bne_eq_false_iff_eq.mpr c5
            clear c5
            obtain rfl := Option.some.inj H
            have p120 : 0 ≤ (x5_1 : Int) := of_decide_eq_true (by first | (with_reducible assumption) | assumption)
            have q120 : x5_1 < (l0.length : Int) := of_decide_eq_true (by first | (with_reducible assumption) | assumption)
            obtain ⟨ad120, A120_1, c120_1, e120, hx120_0, hx120_1, hl120_1, hi120_1⟩ := at_T30 HR0.out x5_1 p120 q120
            cases e120
            have HR120_1 := Aside0.mk hi120_1
            have HC120_1 := Aside0.mk hl120_1
            clear hi120_1 hl120_1
            replace p120 := eq_true p120
            replace q120 := eq_true q120
            go_wp2
            go_ret
            exact ⟨by first | rfl | (simp; done) | (simp [*]; done), by repeat (first | exact Drawn0.refl _ | apply Drawn0.step)⟩
          · rw [if_neg c5] at H
            have c5b0 : (((rd_T30 l0 x5_1).f0) == a1) = false := beq_eq_false_iff_ne.mpr c5
            have c5b1 : (((rd_T30 l0 x5_1).f0) != a1) = true := bne_iff_ne.mpr c5
            have H' := Aside0.mk H
            clear H
            have p120 : 0 ≤ (x5_1 : Int) := of_decide_eq_true (by first | (with_reducible assumption) | assumption)
            have q120 : x5_1 < (l0.length : Int) := of_decide_eq_true (by first | (with_reducible assumption) | assumption)
            obtain ⟨ad120, A120_1, c120_1, e120, hx120_0, hx120_1, hl120_1, hi120_1⟩ := at_T30 HR0.out x5_1 p120 q120
            cases e120
            have HR120_1 := Aside0.mk hi120_1
            have HC120_1 := Aside0.mk hl120_1
            clear hi120_1 hl120_1
            replace p120 := eq_true p120
            replace q120 := eq_true q120
            go_wp2
            go_roundg k1
            case measure => have := HK1.out; omega
            case rel => exact ⟨(wrap64 (x5_1 + 1)), (by first | rfl | (simp; done) | (simp [*]; done)), H', ⟨by have := HK1.out; omega⟩, by repeat (first | exact Drawn0.refl _ | apply Drawn0.step)⟩
        · rw [if_neg c4] at H
          exact absurd H (by simp)
      · rw [if_neg c3] at H
        have c3b0 : decide (x5_1 < (l0.length : Int)) = false := decide_eq_false c3
        clear c3
        obtain rfl := Option.some.inj H
        go_wp2
        go_ret
        exact ⟨by first | rfl | (simp; done) | (simp [*]; done), by repeat (first | exact Drawn0.refl _ | apply Drawn0.step)⟩

/-! ### lodestoneref05_sameRow: function 59 -/
def lodestoneref05_sameRow.l0 : Nat → List Int → List Int → Int → Option (Bool)
  | 0, _, _, _ => none
  | k + 1, x0, x1, x5 => if x5 < (x0.length : Int) then (if 0 ≤ x5 then (if x5 < (x1.length : Int) then (if (rd x0 x5) = (rd x1 x5) then (lodestoneref05_sameRow.l0 k x0 x1 (wrap64 (x5 + 1))) else (some false)) else (none)) else (none)) else (some true)
def lodestoneref05_sameRow.f (k : Nat) (l0 : List Int) (l1 : List Int) : Option (Bool) := if (l0.length : Int) = (l1.length : Int) then (lodestoneref05_sameRow.l0 k l0 l1 0) else (some false)
theorem lodestoneref05_sameRow.mono_l : ∀ k, (∀ y0 y1 y2, LeO (lodestoneref05_sameRow.l0 k y0 y1 y2) (lodestoneref05_sameRow.l0 (k + 1) y0 y1 y2))
  | 0 => fun _ _ _ r h => by simp [lodestoneref05_sameRow.l0] at h
  | k + 1 => by
    have ih0 := lodestoneref05_sameRow.mono_l k
    · intro y0 y1 y2
      unfold lodestoneref05_sameRow.l0
      repeat' first
      | (with_reducible exact ih0 _ _ _)
      | (with_reducible exact LeO.refl _)
      | (with_reducible exact LeO.none _)
      | (with_reducible refine LeO.ite ?_ ?_)
      | (with_reducible refine LeO.bind ?_ (fun _ => ?_))
      | exact ih0 _ _ _
      | exact LeO.none _
      | refine LeO.ite ?_ ?_
      | refine LeO.bind ?_ (fun _ => ?_)
theorem lodestoneref05_sameRow.mono : ∀ a0 a1 k, LeO (lodestoneref05_sameRow.f k a0 a1) (lodestoneref05_sameRow.f (k + 1) a0 a1) := by
  intro a0 a1 k
  have ih0 := lodestoneref05_sameRow.mono_l k
  unfold lodestoneref05_sameRow.f
  repeat' first
      | (with_reducible exact ih0 _ _ _)
      | (with_reducible exact LeO.refl _)
      | (with_reducible exact LeO.none _)
      | (with_reducible refine LeO.ite ?_ ?_)
      | (with_reducible refine LeO.bind ?_ (fun _ => ?_))
      | exact ih0 _ _ _
      | exact LeO.none _
      | refine LeO.ite ?_ ?_
      | refine LeO.bind ?_ (fun _ => ?_)
set_option maxHeartbeats 8000000 in
set_option maxRecDepth 100000 in
theorem lodestoneref05_sameRow.calls (k : Nat) (A0 : Option Addr) (c0 : Nat) (l0 : List Int) (A1 : Option Addr) (c1 : Nat) (l1 : List Int) (r : Bool) (w : World) (hr0 : Kd.C (Kd.int .i64) w A0 l0.length l0) (hc0 : l0.length ≤ c0) (hr1 : Kd.C (Kd.int .i64) w A1 l1.length l1) (hc1 : l1.length ≤ c1) (h : lodestoneref05_sameRow.f k l0 l1 = some r) :
    Calls Tryd.prog 59 #[.slice A0 l0.length c0, .slice A1 l1.length c1] w fun e w' => e = .returned (.bool r) ∧ Drawn0 w w' := by
  have HR0 := Aside0.mk hr0
  have HC0 := Aside0.mk hc0
  clear hr0 hc0
  have HR1 := Aside0.mk hr1
  have HC1 := Aside0.mk hc1
  clear hr1 hc1
  have H : (if (l0.length : Int) = (l1.length : Int) then (lodestoneref05_sameRow.l0 k l0 l1 0) else (some false)) = some r := h
  clear h
  by_cases c3 : (l0.length : Int) = (l1.length : Int)
  · rw [if_pos c3] at H
    have c3b0 : ((l0.length : Int) == (l1.length : Int)) = true := beq_iff_eq.mpr c3
    have c3b1 : ((l0.length : Int) != (l1.length : Int)) = false := bne_eq_false_iff_eq.mpr c3
    have c3b2 : (l0.length == l1.length) = true := by first | simpa using c3 | (simp at c3 ⊢; omega)
    clear c3
    have H' := Aside0.mk H
    clear H
    go_enter Tryd.func59, Tryd.ntmps59
    go_wp2
    repeat (go_quiet (fail); try go_wp2)
    go_loopg [5] k (fun kq v5 w' => ∃ (x5_1 : Int), v5 = .int .i64 x5_1 ∧ Aside0 (lodestoneref05_sameRow.l0 kq l0 l1 x5_1 = some r) ∧ Aside0 (kq ≤ k) ∧ Drawn0 w w')
    case atStart => exact ⟨(0), (by first | rfl | (simp; done) | (simp [*]; done)), H', ⟨Nat.le_refl _⟩, by repeat (first | exact Drawn0.refl _ | apply Drawn0.step)⟩
    case round =>
      clear H'
      try clear c1
      try clear p2
      try clear c3
      try clear c3b0
      try clear c3b1
      try clear c3b2
      obtain ⟨x5_1, rfl, HA, HK1, ⟨m1, rfl⟩⟩ := hrel
      cases gk with
      | zero => exact absurd HA.out (by simp [lodestoneref05_sameRow.l0])
      | succ k1 =>
        have H := HA.out
        clear HA
        simp only [lodestoneref05_sameRow.l0] at H
        by_cases c4 : x5_1 < (l0.length : Int)
        · rw [if_pos c4] at H
          have c4b0 : decide (x5_1 < (l0.length : Int)) = true := decide_eq_true c4
          clear c4
          by_cases c5 : 0 ≤ x5_1
          · rw [if_pos c5] at H
            have c5b0 : decide (0 ≤ x5_1) = true := decide_eq_true c5
            clear c5
            by_cases c6 : x5_1 < (l1.length : Int)
            · rw [if_pos c6] at H
              have c6b0 : decide (x5_1 < (l1.length : Int)) = true := decide_eq_true c6
              clear c6
              by_cases c7 : (rd l0 x5_1) = (rd l1 x5_1)
              · rw [if_pos c7] at H
                have c7b0 : ((rd l0 x5_1) == (rd l1 x5_1)) = true := beq_iff_eq.mpr c7
                have c7b1 : ((rd l0 x5_1) != (rd l1 x5_1)) = false := bne_eq_false_iff_eq.mpr c7
                clear c7
                have H' := Aside0.mk H
                clear H
                have p121 : 0 ≤ (x5_1 : Int) := of_decide_eq_true (by first | (with_reducible assumption) | assumption)
                have q121 : x5_1 < (l0.length : Int) := of_decide_eq_true (by first | (with_reducible assumption) | assumption)
                obtain ⟨ad121, e121, hx121_0⟩ := Kd.at_int HR0.out x5_1 p121 q121
                cases e121
                replace p121 := eq_true p121
                replace q121 := eq_true q121
                have p122 : 0 ≤ (x5_1 : Int) := of_decide_eq_true (by first | (with_reducible assumption) | assumption)
                have q122 : x5_1 < (l1.length : Int) := of_decide_eq_true (by first | (with_reducible assumption) | assumption)
                obtain ⟨ad122, e122, hx122_0⟩ := Kd.at_int HR1.out x5_1 p122 q122
                cases e122
                replace p122 := eq_true p122
                replace q122 := eq_true q122
                go_wp2
                repeat (go_quiet (fail); try go_wp2)
                go_roundg k1
                case measure => have := HK1.out; omega
                case rel => exact ⟨(wrap64 (x5_1 + 1)), (by first | rfl | (simp; done) | (simp [*]; done)), H', ⟨by have := HK1.out; omega⟩, by repeat (first | exact Drawn0.refl _ | apply Drawn0.step)⟩
              · rw [if_neg c7] at H
                have c7b0 : ((rd l0 x5_1) == (rd l1 x5_1)) = false := beq_eq_false_iff_ne.mpr c7
                have c7b1 : ((rd l0 x5_1) != (rd l1 x5_1)) = true := bne_iff_ne.mpr c7
                obtain rfl := Option.some.inj H
                have p121 : 0 ≤ (x5_1 : Int) := of_decide_eq_true (by first | (with_reducible assumption) | assumption)
                have q121 : x5_1 < (l0.length : Int) := of_decide_eq_true (by first | (with_reducible assumption) | assumption)
                obtain ⟨ad121, e121, hx121_0⟩ := Kd.at_int HR0.out x5_1 p121 q121
                cases e121
                replace p121 := eq_true p121
                replace q121 := eq_true q121
                have p122 : 0 ≤ (x5_1 : Int) := of_decide_eq_true (by first | (with_reducible assumption) | assumption)
                have q122 : x5_1 < (l1.length : Int) := of_decide_eq_true (by first | (with_reducible assumption) | assumption)
                obtain ⟨ad122, e122, hx122_0⟩ := Kd.at_int HR1.out x5_1 p122 q122
                cases e122
                replace p122 := eq_true p122
                replace q122 := eq_true q122
                go_wp2
                repeat (go_quiet (fail); try go_wp2)
                go_ret
                exact ⟨by first | rfl | (simp; done) | (simp [*]; done), by repeat (first | exact Drawn0.refl _ | apply Drawn0.step)⟩
            · rw [if_neg c6] at H
              exact absurd H (by simp)
          · rw [if_neg c5] at H
            exact absurd H (by simp)
        · rw [if_neg c4] at H
          have c4b0 : decide (x5_1 < (l0.length : Int)) = false := decide_eq_false c4
          clear c4
          obtain rfl := Option.some.inj H
          go_wp2
          repeat (go_quiet (fail); try go_wp2)
          go_ret
          exact ⟨by first | rfl | (simp; done) | (simp [*]; done), by repeat (first | exact Drawn0.refl _ | apply Drawn0.step)⟩
  · rw [if_neg c3] at H
    have c3b0 : ((l0.length : Int) == (l1.length : Int)) = false := beq_eq_false_iff_ne.mpr c3
    have c3b1 : ((l0.length : Int) != (l1.length : Int)) = true := bne_iff_ne.mpr c3
    have c3b2 : (l0.length == l1.length) = false := by first | simpa using c3 | (simp at c3 ⊢; omega)
    obtain rfl := Option.some.inj H
    go_enter Tryd.func59, Tryd.ntmps59
    go_wp2
    repeat (go_quiet (fail); try go_wp2)
    go_ret
    exact ⟨by first | rfl | (simp; done) | (simp [*]; done), by repeat (first | exact Drawn0.refl _ | apply Drawn0.step)⟩

/-! ### lodestoneref05_sorted: function 60 -/
mutual
def lodestoneref05_sorted.l0 : Nat → List (S30) → List (S30) → Option ((List (S30)))
  | 0, _, _ => none
  | k + 1, x0, x3 => if (x3.length : Int) < (x0.length : Int) then (lodestoneref05_sorted.l1 k x0 x3 (-1) 0) else (some x3)
def lodestoneref05_sorted.l1 : Nat → List (S30) → List (S30) → Int → Int → Option ((List (S30)))
  | 0, _, _, _, _ => none
  | k + 1, x0, x3, x4, x5 => if x5 < (x0.length : Int) then (if (x3.length : Int) = 0 then (if x4 < 0 then (lodestoneref05_sorted.l1 k x0 x3 x5 (wrap64 (x5 + 1))) else (if 0 ≤ x5 then (if 0 ≤ x4 then (if x4 < (x0.length : Int) then (if ((rd_T30 x0 x5).f0) < ((rd_T30 x0 x4).f0) then (lodestoneref05_sorted.l1 k x0 x3 x5 (wrap64 (x5 + 1))) else (lodestoneref05_sorted.l1 k x0 x3 x4 (wrap64 (x5 + 1)))) else (none)) else (none)) else (none))) else (if 0 ≤ x5 then (if 0 ≤ (wrap64 ((x3.length : Int) - 1)) then (if (wrap64 ((x3.length : Int) - 1)) < (x3.length : Int) then (if ((rd_T30 x0 x5).f0) > ((rd_T30 x3 (wrap64 ((x3.length : Int) - 1))).f0) then (if x4 < 0 then (lodestoneref05_sorted.l1 k x0 x3 x5 (wrap64 (x5 + 1))) else (if 0 ≤ x4 then (if x4 < (x0.length : Int) then (if ((rd_T30 x0 x5).f0) < ((rd_T30 x0 x4).f0) then (lodestoneref05_sorted.l1 k x0 x3 x5 (wrap64 (x5 + 1))) else (lodestoneref05_sorted.l1 k x0 x3 x4 (wrap64 (x5 + 1)))) else (none)) else (none))) else (lodestoneref05_sorted.l1 k x0 x3 x4 (wrap64 (x5 + 1)))) else (none)) else (none)) else (none))) else (if 0 ≤ x4 then (if x4 < (x0.length : Int) then (if x3.length < 4398046511104 then (lodestoneref05_sorted.l0 k x0 (x3 ++ [(⟨(rd_T30 x0 x4).f0, (rd_T30 x0 x4).f1⟩ : S30)])) else (none)) else (none)) else (none))
end
def lodestoneref05_sorted.f (k : Nat) (l0 : List (S30)) : Option ((List (S30))) := lodestoneref05_sorted.l0 k l0 ([] : List (S30))
theorem lodestoneref05_sorted.mono_l : ∀ k, (∀ y0 y1, LeO (lodestoneref05_sorted.l0 k y0 y1) (lodestoneref05_sorted.l0 (k + 1) y0 y1)) ∧ (∀ y0 y1 y2 y3, LeO (lodestoneref05_sorted.l1 k y0 y1 y2 y3) (lodestoneref05_sorted.l1 (k + 1) y0 y1 y2 y3))
  | 0 => ⟨fun _ _ r h => by simp [lodestoneref05_sorted.l0] at h, fun _ _ _ _ r h => by simp [lodestoneref05_sorted.l1] at h⟩
  | k + 1 => by
    obtain ⟨ih0, ih1⟩ := lodestoneref05_sorted.mono_l k
    refine ⟨?_, ?_⟩
    · intro y0 y1
      unfold lodestoneref05_sorted.l0
      repeat' first
      | (with_reducible exact ih0 _ _)
      | (with_reducible exact ih1 _ _ _ _)
      | (with_reducible exact LeO.refl _)
      | (with_reducible exact LeO.none _)
      | (with_reducible refine LeO.ite ?_ ?_)
      | (with_reducible refine LeO.bind ?_ (fun _ => ?_))
      | exact ih0 _ _
      | exact ih1 _ _ _ _
      | exact LeO.none _
      | refine LeO.ite ?_ ?_
      | refine LeO.bind ?_ (fun _ => ?_)
    · intro y0 y1 y2 y3
      unfold lodestoneref05_sorted.l1
      repeat' first
      | (with_reducible exact ih0 _ _)
      | (with_reducible exact ih1 _ _ _ _)
      | (with_reducible exact LeO.refl _)
      | (with_reducible exact LeO.none _)
      | (with_reducible refine LeO.ite ?_ ?_)
      | (with_reducible refine LeO.bind ?_ (fun _ => ?_))
      | exact ih0 _ _
      | exact ih1 _ _ _ _
      | exact LeO.none _
      | refine LeO.ite ?_ ?_
      | refine LeO.bind ?_ (fun _ => ?_)
theorem lodestoneref05_sorted.mono : ∀ a0 k, LeO (lodestoneref05_sorted.f k a0) (lodestoneref05_sorted.f (k + 1) a0) := by
  intro a0 k
  obtain ⟨ih0, ih1⟩ := lodestoneref05_sorted.mono_l k
  unfold lodestoneref05_sorted.f
  repeat' first
      | (with_reducible exact ih0 _ _)
      | (with_reducible exact ih1 _ _ _ _)
      | (with_reducible exact LeO.refl _)
      | (with_reducible exact LeO.none _)
      | (with_reducible refine LeO.ite ?_ ?_)
      | (with_reducible refine LeO.bind ?_ (fun _ => ?_))
      | exact ih0 _ _
      | exact ih1 _ _ _ _
      | exact LeO.none _
      | refine LeO.ite ?_ ?_
      | refine LeO.bind ?_ (fun _ => ?_)
set_option maxHeartbeats 8000000 in
set_option maxRecDepth 100000 in
theorem lodestoneref05_sorted.calls (k : Nat) (P0_ : Nat → Prop) (A0 : Option Addr) (c0 : Nat) (l0 : List (S30)) (r : List (S30)) (w : World) (hs0 : Kd.V k30 30 w w.heap.size (fun k_ => P0_ k_) (.slice A0 l0.length c0) l0) (h : lodestoneref05_sorted.f k l0 = some r) :
    Calls Tryd.prog 60 #[.slice A0 l0.length c0] w fun e w' => ∃ v0_ : Value, e = .returned (v0_) ∧ Kd.N k30 30 w' w.heap.size (fun k_ => (P0_ k_ ∨ w.heap.size ≤ k_)) v0_ r ∧ Below w.heap.size w w' := by
  have hu30 := Tryd.underlying30
  have HO0 := Aside0.mk (show Kd.V k30 30 w w.heap.size (fun k_ => (P0_ k_ ∨ w.heap.size ≤ k_)) (.slice A0 l0.length c0) l0 from Kd.V_mono hs0 (fun k_ hk => .inl hk))
  have HB := Aside0.mk (Below.refl w.heap.size w)
  have H : (lodestoneref05_sorted.l0 k l0 ([] : List (S30))) = some r := h
  clear h
  have H' := Aside0.mk H
  clear H
  go_enter Tryd.func60, Tryd.ntmps60
  go_wp2
  repeat (go_quiet (fail); try go_wp2)
  go_loopg [3] k (fun kq v3 w' => ∃ (x3_1 : List (S30)), Aside0 (lodestoneref05_sorted.l0 kq l0 x3_1 = some r) ∧ Aside0 (kq ≤ k) ∧ Aside0 (Kd.V k30 30 w' w.heap.size (fun k_ => (P0_ k_ ∨ w.heap.size ≤ k_) ∧ some k_ ≠ (v3 : Value).ownBlock) (.slice A0 l0.length c0) l0) ∧ Aside0 (Kd.N k30 30 w' w.heap.size (fun k_ => (P0_ k_ ∨ w.heap.size ≤ k_)) v3 x3_1) ∧ Aside0 (Below w.heap.size w w'))
  case atStart => exact ⟨(([] : List (S30))), H', ⟨Nat.le_refl _⟩, ⟨by (with_reducible repeat (first | apply Kd.V_alloc | apply Kd.V_drewN | apply Kd.V_drew)); exact Kd.V_mono HO0.out (fun _ hk => ⟨hk, (by simp [Value.ownBlock])⟩)⟩, ⟨by first | exact Kd.S_nil _ _ _ _ _ | exact Kd.N_nil _ _ _ _ _ | exact Kd.V_nil _ _ _ _ _ | exact Kd.Q_nil _ _ _ _ _ | exact Kd.R_nil _ _ _ _ _⟩, ⟨by repeat (first | (with_reducible first | exact HB.out | apply below_alloc | apply pw_below_drewN | apply below_drew1) | exact HB.out)⟩⟩
  case round =>
    clear H'
    obtain ⟨x3_1, HA, HK1, HO_0, HO_3, HB⟩ := hrel
    cases gk with
    | zero => exact absurd HA.out (by simp [lodestoneref05_sorted.l0])
    | succ k1 =>
      have H := HA.out
      clear HA
      simp only [lodestoneref05_sorted.l0] at H
      by_cases c2 : (x3_1.length : Int) < (l0.length : Int)
      · rw [if_pos c2] at H
        have c2b0 : decide ((x3_1.length : Int) < (l0.length : Int)) = true := decide_eq_true c2
        have c2b1 : decide (x3_1.length < l0.length) = true := decide_eq_true (Int.ofNat_lt.mp c2)
        clear c2
        have H' := Aside0.mk H
        clear H
        obtain ⟨Ao3, co3, eo3⟩ := Kd.N_slice HO_3.out
        subst eo3
        go_wp2
        repeat (go_quiet (fail); try go_wp2)
        go_loopg [4, 5] k1 (fun kq v4 v5 w' => ∃ (x4_2 : Int) (x5_2 : Int), v4 = .int .i64 x4_2 ∧ v5 = .int .i64 x5_2 ∧ Aside0 (lodestoneref05_sorted.l1 kq l0 x3_1 x4_2 x5_2 = some r) ∧ Aside0 (kq ≤ k1) ∧ Aside0 (Kd.V k30 30 w' w.heap.size (fun k_ => (P0_ k_ ∨ w.heap.size ≤ k_) ∧ some k_ ≠ ((.slice Ao3 x3_1.length co3) : Value).ownBlock) (.slice A0 l0.length c0) l0) ∧ Aside0 (Kd.N k30 30 w' w.heap.size (fun k_ => (P0_ k_ ∨ w.heap.size ≤ k_)) (.slice Ao3 x3_1.length co3) x3_1) ∧ Aside0 (Below w.heap.size w w'))
        case atStart => exact ⟨((-1)), (0), (by first | rfl | (simp; done) | (simp [*]; done)), (by first | rfl | (simp; done) | (simp [*]; done)), H', ⟨Nat.le_refl _⟩, ⟨by (with_reducible repeat (first | apply Kd.V_alloc | apply Kd.V_drewN | apply Kd.V_drew)); exact HO_0.out⟩, ⟨by (with_reducible repeat (first | apply Kd.N_alloc | apply Kd.N_drewN | apply Kd.N_drew)); exact HO_3.out⟩, ⟨by repeat (first | (with_reducible first | exact HB.out | apply below_alloc | apply pw_below_drewN | apply below_drew1) | exact HB.out)⟩⟩
        case round =>
          clear H'
          try clear c2
          try clear c2b0
          try clear c2b1
          try clear p2
          obtain ⟨x4_2, x5_2, rfl, rfl, HA, HK2, HO_0, HO_3, HB⟩ := hrel
          cases gk with
          | zero => exact absurd HA.out (by simp [lodestoneref05_sorted.l1])
          | succ k2 =>
            have H := HA.out
            clear HA
            simp only [lodestoneref05_sorted.l1] at H
            by_cases c4 : x5_2 < (l0.length : Int)
            · rw [if_pos c4] at H
              have c4b0 : decide (x5_2 < (l0.length : Int)) = true := decide_eq_true c4
              clear c4
              by_cases c5 : (x3_1.length : Int) = 0
              · rw [if_pos c5] at H
                have c5b0 : ((x3_1.length : Int) == 0) = true := beq_iff_eq.mpr c5
                have c5b1 : ((x3_1.length : Int) != 0) = false := bne_eq_false_iff_eq.mpr c5
                clear c5
                by_cases c6 : x4_2 < 0
                · rw [if_pos c6] at H
                  have c6b0 : decide (x4_2 < 0) = true := decide_eq_true c6
                  clear c6
                  have H' := Aside0.mk H
                  clear H
                  go_wp2
                  repeat (go_quiet (fail); try go_wp2)
                  go_roundg k2
                  case measure => have := HK1.out; have := HK2.out; omega
                  case rel => exact ⟨(x5_2), (wrap64 (x5_2 + 1)), (by first | rfl | (simp; done) | (simp [*]; done)), (by first | rfl | (simp; done) | (simp [*]; done)), H', ⟨by have := HK1.out; have := HK2.out; omega⟩, ⟨by (with_reducible repeat (first | apply Kd.V_alloc | apply Kd.V_drewN | apply Kd.V_drew)); exact HO_0.out⟩, ⟨by (with_reducible repeat (first | apply Kd.N_alloc | apply Kd.N_drewN | apply Kd.N_drew)); exact HO_3.out⟩, ⟨by repeat (first | (with_reducible first | exact HB.out | apply below_alloc | apply pw_below_drewN | apply below_drew1) | exact HB.out)⟩⟩
                · rw [if_neg c6] at H
                  have c6b0 : decide (x4_2 < 0) = false := decide_eq_false c6
                  clear c6
                  by_cases c7 : 0 ≤ x5_2
                  · rw [if_pos c7] at H
                    have c7b0 : decide (0 ≤ x5_2) = true := decide_eq_true c7
                    clear c7
                    by_cases c8 : 0 ≤ x4_2
                    · rw [if_pos c8] at H
                      have c8b0 : decide (0 ≤ x4_2) = true := decide_eq_true c8
                      clear c8
                      by_cases c9 : x4_2 < (l0.length : Int)
                      · rw [if_pos c9] at H
                        have c9b0 : decide (x4_2 < (l0.length : Int)) = true := decide_eq_true c9
                        clear c9
                        by_cases c10 : ((rd_T30 l0 x5_2).f0) < ((rd_T30 l0 x4_2).f0)
                        · rw [if_pos c10] at H
                          have c10b0 : decide (((rd_T30 l0 x5_2).f0) < ((rd_T30 l0 x4_2).f0)) = true := decide_eq_true c10
                          clear c10
                          have H' := Aside0.mk H
                          clear H
                          have p123 : 0 ≤ (x5_2 : Int) := of_decide_eq_true (by first | (with_reducible assumption) | assumption)
                          have q123 : x5_2 < (l0.length : Int) := of_decide_eq_true (by first | (with_reducible assumption) | assumption)
                          obtain ⟨ad123, A123_1, c123_1, e123, hx123_0, hx123_1, hl123_1, hi123_1⟩ := at_T30 (Kd.V_reads' HO_0.out).2.2 x5_2 p123 q123
                          cases e123
                          obtain ⟨ce123, hce123, hMe123, hcc123⟩ := Kd.V_get HO_0.out z30 x5_2 p123 (by first | exact q123 | exact of_decide_eq_true (by first | (with_reducible assumption) | assumption) | (have e_ := (Kd.V_reads' HO_0.out).1; omega))
                          obtain ⟨ua123_1, uc123_1, rfl, ul123_1, ge123_1⟩ := k30_openF hMe123
                          have hv123_1 := hcc123 1 _ rfl
                          rw [add_field _ _ 1 (by omega)] at hv123_1
                          replace hv123_1 := Option.some.inj (hv123_1.symm.trans hx123_1)
                          injection hv123_1 with hva_ hvn_ hvc_
                          rw [hva_] at ge123_1
                          rw [hvc_] at ul123_1
                          have HL123_1 := Aside0.mk (show Kd.V (Kd.int .i64) 3 _ w.heap.size _ _ ((rd_T30 l0 x5_2).f1) from Kd.V_mk ul123_1 ge123_1)
                          clear hva_ hvn_ hvc_ ge123_1 ul123_1
                          clear hcc123 hce123
                          have HR123_1 := Aside0.mk hi123_1
                          have HC123_1 := Aside0.mk hl123_1
                          clear hi123_1 hl123_1
                          replace p123 := eq_true p123
                          replace q123 := eq_true q123
                          have p124 : 0 ≤ (x4_2 : Int) := of_decide_eq_true (by first | (with_reducible assumption) | assumption)
                          have q124 : x4_2 < (l0.length : Int) := of_decide_eq_true (by first | (with_reducible assumption) | assumption)
                          obtain ⟨ad124, A124_1, c124_1, e124, hx124_0, hx124_1, hl124_1, hi124_1⟩ := at_T30 (Kd.V_reads' HO_0.out).2.2 x4_2 p124 q124
                          obtain rfl : ad123 = ad124 := (by injection e124)
                          obtain ⟨ce124, hce124, hMe124, hcc124⟩ := Kd.V_get HO_0.out z30 x4_2 p124 (by first | exact q124 | exact of_decide_eq_true (by first | (with_reducible assumption) | assumption) | (have e_ := (Kd.V_reads' HO_0.out).1; omega))
                          obtain ⟨ua124_1, uc124_1, rfl, ul124_1, ge124_1⟩ := k30_openF hMe124
                          have hv124_1 := hcc124 1 _ rfl
                          rw [add_field _ _ 1 (by omega)] at hv124_1
                          replace hv124_1 := Option.some.inj (hv124_1.symm.trans hx124_1)
                          injection hv124_1 with hva_ hvn_ hvc_
                          rw [hva_] at ge124_1
                          rw [hvc_] at ul124_1
                          have HL124_1 := Aside0.mk (show Kd.V (Kd.int .i64) 3 _ w.heap.size _ _ ((rd_T30 l0 x4_2).f1) from Kd.V_mk ul124_1 ge124_1)
                          clear hva_ hvn_ hvc_ ge124_1 ul124_1
                          clear hcc124 hce124
                          have HR124_1 := Aside0.mk hi124_1
                          have HC124_1 := Aside0.mk hl124_1
                          clear hi124_1 hl124_1
                          replace p124 := eq_true p124
                          replace q124 := eq_true q124
                          go_wp2
                          repeat (go_quiet (fail); try go_wp2)
                          go_roundg k2
                          case measure => have := HK1.out; have := HK2.out; omega
                          case rel => exact ⟨(x5_2), (wrap64 (x5_2 + 1)), (by first | rfl | (simp; done) | (simp [*]; done)), (by first | rfl | (simp; done) | (simp [*]; done)), H', ⟨by have := HK1.out; have := HK2.out; omega⟩, ⟨by (with_reducible repeat (first | apply Kd.V_alloc | apply Kd.V_drewN | apply Kd.V_drew)); exact HO_0.out⟩, ⟨by (with_reducible repeat (first | apply Kd.N_alloc | apply Kd.N_drewN | apply Kd.N_drew)); exact HO_3.out⟩, ⟨by repeat (first | (with_reducible first | exact HB.out | apply below_alloc | apply pw_below_drewN | apply below_drew1) | exact HB.out)⟩⟩
                        · rw [if_neg c10] at H
                          have c10b0 : decide (((rd_T30 l0 x5_2).f0) < ((rd_T30 l0 x4_2).f0)) = false := decide_eq_false c10
                          clear c10
                          have H' := Aside0.mk H
                          clear H
                          have p123 : 0 ≤ (x5_2 : Int) := of_decide_eq_true (by first | (with_reducible assumption) | assumption)
                          have q123 : x5_2 < (l0.length : Int) := of_decide_eq_true (by first | (with_reducible assumption) | assumption)
                          obtain ⟨ad123, A123_1, c123_1, e123, hx123_0, hx123_1, hl123_1, hi123_1⟩ := at_T30 (Kd.V_reads' HO_0.out).2.2 x5_2 p123 q123
                          cases e123
                          obtain ⟨ce123, hce123, hMe123, hcc123⟩ := Kd.V_get HO_0.out z30 x5_2 p123 (by first | exact q123 | exact of_decide_eq_true (by first | (with_reducible assumption) | assumption) | (have e_ := (Kd.V_reads' HO_0.out).1; omega))
                          obtain ⟨ua123_1, uc123_1, rfl, ul123_1, ge123_1⟩ := k30_openF hMe123
                          have hv123_1 := hcc123 1 _ rfl
                          rw [add_field _ _ 1 (by omega)] at hv123_1
                          replace hv123_1 := Option.some.inj (hv123_1.symm.trans hx123_1)
                          injection hv123_1 with hva_ hvn_ hvc_
                          rw [hva_] at ge123_1
                          rw [hvc_] at ul123_1
                          have HL123_1 := Aside0.mk (show Kd.V (Kd.int .i64) 3 _ w.heap.size _ _ ((rd_T30 l0 x5_2).f1) from Kd.V_mk ul123_1 ge123_1)
                          clear hva_ hvn_ hvc_ ge123_1 ul123_1
                          clear hcc123 hce123
                          have HR123_1 := Aside0.mk hi123_1
                          have HC123_1 := Aside0.mk hl123_1
                          clear hi123_1 hl123_1
                          replace p123 := eq_true p123
                          replace q123 := eq_true q123
                          have p124 : 0 ≤ (x4_2 : Int) := of_decide_eq_true (by first | (with_reducible assumption) | assumption)
                          have q124 : x4_2 < (l0.length : Int) := of_decide_eq_true (by first | (with_reducible assumption) | assumption)
                          obtain ⟨ad124, A124_1, c124_1, e124, hx124_0, hx124_1, hl124_1, hi124_1⟩ := at_T30 (Kd.V_reads' HO_0.out).2.2 x4_2 p124 q124
                          obtain rfl : ad123 = ad124 := (by injection e124)
                          obtain ⟨ce124, hce124, hMe124, hcc124⟩ := Kd.V_get HO_0.out z30 x4_2 p124 (by first | exact q124 | exact of_decide_eq_true (by first | (with_reducible assumption) | assumption) | (have e_ := (Kd.V_reads' HO_0.out).1; omega))
                          obtain ⟨ua124_1, uc124_1, rfl, ul124_1, ge124_1⟩ := k30_openF hMe124
                          have hv124_1 := hcc124 1 _ rfl
                          rw [add_field _ _ 1 (by omega)] at hv124_1
                          replace hv124_1 := Option.some.inj (hv124_1.symm.trans hx124_1)
                          injection hv124_1 with hva_ hvn_ hvc_
                          rw [hva_] at ge124_1
                          rw [hvc_] at ul124_1
                          have HL124_1 := Aside0.mk (show Kd.V (Kd.int .i64) 3 _ w.heap.size _ _ ((rd_T30 l0 x4_2).f1) from Kd.V_mk ul124_1 ge124_1)
                          clear hva_ hvn_ hvc_ ge124_1 ul124_1
                          clear hcc124 hce124
                          have HR124_1 := Aside0.mk hi124_1
                          have HC124_1 := Aside0.mk hl124_1
                          clear hi124_1 hl124_1
                          replace p124 := eq_true p124
                          replace q124 := eq_true q124
                          go_wp2
                          repeat (go_quiet (fail); try go_wp2)
                          go_roundg k2
                          case measure => have := HK1.out; have := HK2.out; omega
                          case rel => exact ⟨(x4_2), (wrap64 (x5_2 + 1)), (by first | rfl | (simp; done) | (simp [*]; done)), (by first | rfl | (simp; done) | (simp [*]; done)), H', ⟨by have := HK1.out; have := HK2.out; omega⟩, ⟨by (with_reducible repeat (first | apply Kd.V_alloc | apply Kd.V_drewN | apply Kd.V_drew)); exact HO_0.out⟩, ⟨by (with_reducible repeat (first | apply Kd.N_alloc | apply Kd.N_drewN | apply Kd.N_drew)); exact HO_3.out⟩, ⟨by repeat (first | (with_reducible first | exact HB.out | apply below_alloc | apply pw_below_drewN | apply below_drew1) | exact HB.out)⟩⟩
                      · rw [if_neg c9] at H
                        exact absurd H (by simp)
                    · rw [if_neg c8] at H
                      exact absurd H (by simp)
                  · rw [if_neg c7] at H
                    exact absurd H (by simp)
              · rw [if_neg c5] at H
                have c5b0 : ((x3_1.length : Int) == 0) = false := beq_eq_false_iff_ne.mpr c5
                have c5b1 : ((x3_1.length : Int) != 0) = true := bne_iff_ne.mpr c5
                have c5b2 : ¬ (x3_1 = []) := fun h_ => c5 (by rw [h_]; rfl)
                by_cases c11 : 0 ≤ x5_2
                · rw [if_pos c11] at H
                  have c11b0 : decide (0 ≤ x5_2) = true := decide_eq_true c11
                  clear c11
                  obtain ⟨ji12, hji12⟩ : ∃ j_ : Int, (wrap64 ((x3_1.length : Int) - 1)) = j_ := ⟨_, rfl⟩
                  replace H : (if 0 ≤ (ji12) then (if (ji12) < (x3_1.length : Int) then (if ((rd_T30 l0 x5_2).f0) > ((rd_T30 x3_1 (ji12)).f0) then (if x4_2 < 0 then (lodestoneref05_sorted.l1 k2 l0 x3_1 x5_2 (wrap64 (x5_2 + 1))) else (if 0 ≤ x4_2 then (if x4_2 < (l0.length : Int) then (if ((rd_T30 l0 x5_2).f0) < ((rd_T30 l0 x4_2).f0) then (lodestoneref05_sorted.l1 k2 l0 x3_1 x5_2 (wrap64 (x5_2 + 1))) else (lodestoneref05_sorted.l1 k2 l0 x3_1 x4_2 (wrap64 (x5_2 + 1)))) else (none)) else (none))) else (lodestoneref05_sorted.l1 k2 l0 x3_1 x4_2 (wrap64 (x5_2 + 1)))) else (none)) else (none)) = some r := by first | (rw [hji12] at H; exact H) | (simp only [hji12] at H ⊢; exact H)
                  have hji12w : (IntKind.i64.wrap ((x3_1.length : Int) - 1)) = ji12 := (i64_w _).trans hji12
                  by_cases c13 : 0 ≤ (ji12)
                  · rw [if_pos c13] at H
                    have c13b0 : decide (0 ≤ (ji12)) = true := decide_eq_true c13
                    clear c13
                    by_cases c14 : (ji12) < (x3_1.length : Int)
                    · rw [if_pos c14] at H
                      have c14b0 : decide ((ji12) < (x3_1.length : Int)) = true := decide_eq_true c14
                      clear c14
                      by_cases c15 : ((rd_T30 l0 x5_2).f0) > ((rd_T30 x3_1 (ji12)).f0)
                      · rw [if_pos c15] at H
                        have c15b0 : decide (((rd_T30 x3_1 (ji12)).f0) < ((rd_T30 l0 x5_2).f0)) = true := decide_eq_true c15
                        clear c15
                        by_cases c16 : x4_2 < 0
                        · rw [if_pos c16] at H
                          have c16b0 : decide (x4_2 < 0) = true := decide_eq_true c16
                          clear c16
                          have H' := Aside0.mk H
                          clear H
                          have p125 : 0 ≤ (x5_2 : Int) := of_decide_eq_true (by first | (with_reducible assumption) | assumption)
                          have q125 : x5_2 < (l0.length : Int) := of_decide_eq_true (by first | (with_reducible assumption) | assumption)
                          obtain ⟨ad125, A125_1, c125_1, e125, hx125_0, hx125_1, hl125_1, hi125_1⟩ := at_T30 (Kd.V_reads' HO_0.out).2.2 x5_2 p125 q125
                          cases e125
                          obtain ⟨ce125, hce125, hMe125, hcc125⟩ := Kd.V_get HO_0.out z30 x5_2 p125 (by first | exact q125 | exact of_decide_eq_true (by first | (with_reducible assumption) | assumption) | (have e_ := (Kd.V_reads' HO_0.out).1; omega))
                          obtain ⟨ua125_1, uc125_1, rfl, ul125_1, ge125_1⟩ := k30_openF hMe125
                          have hv125_1 := hcc125 1 _ rfl
                          rw [add_field _ _ 1 (by omega)] at hv125_1
                          replace hv125_1 := Option.some.inj (hv125_1.symm.trans hx125_1)
                          injection hv125_1 with hva_ hvn_ hvc_
                          rw [hva_] at ge125_1
                          rw [hvc_] at ul125_1
                          have HL125_1 := Aside0.mk (show Kd.V (Kd.int .i64) 3 _ w.heap.size _ _ ((rd_T30 l0 x5_2).f1) from Kd.V_mk ul125_1 ge125_1)
                          clear hva_ hvn_ hvc_ ge125_1 ul125_1
                          clear hcc125 hce125
                          have HR125_1 := Aside0.mk hi125_1
                          have HC125_1 := Aside0.mk hl125_1
                          clear hi125_1 hl125_1
                          replace p125 := eq_true p125
                          replace q125 := eq_true q125
                          have p126 : 0 ≤ ((ji12) : Int) := of_decide_eq_true (by first | (with_reducible assumption) | assumption)
                          have q126 : (ji12) < (x3_1.length : Int) := of_decide_eq_true (by first | (with_reducible assumption) | assumption)
                          obtain ⟨ad126, A126_1, c126_1, e126, hx126_0, hx126_1, hl126_1, hi126_1⟩ := at_T30 (Kd.N_reads' HO_3.out).2.2 (ji12) p126 q126
                          cases e126
                          obtain ⟨ce126, hce126, hMe126, hcc126⟩ := Kd.N_get HO_3.out z30 (ji12) p126 (by first | exact q126 | exact of_decide_eq_true (by first | (with_reducible assumption) | assumption) | (have e_ := (Kd.N_reads' HO_3.out).1; omega))
                          obtain ⟨ua126_1, uc126_1, rfl, ul126_1, ge126_1⟩ := k30_openF hMe126
                          have hv126_1 := hcc126 1 _ rfl
                          rw [add_field _ _ 1 (by omega)] at hv126_1
                          replace hv126_1 := Option.some.inj (hv126_1.symm.trans hx126_1)
                          injection hv126_1 with hva_ hvn_ hvc_
                          rw [hva_] at ge126_1
                          rw [hvc_] at ul126_1
                          have HL126_1 := Aside0.mk (show Kd.V (Kd.int .i64) 3 _ w.heap.size _ _ ((rd_T30 x3_1 (ji12)).f1) from Kd.V_mk ul126_1 ge126_1)
                          clear hva_ hvn_ hvc_ ge126_1 ul126_1
                          clear hcc126 hce126
                          have HR126_1 := Aside0.mk hi126_1
                          have HC126_1 := Aside0.mk hl126_1
                          clear hi126_1 hl126_1
                          replace p126 := eq_true p126
                          replace q126 := eq_true q126
                          go_wp2
                          repeat (go_quiet (fail); try go_wp2)
                          go_roundg k2
                          case measure => have := HK1.out; have := HK2.out; omega
                          case rel => exact ⟨(x5_2), (wrap64 (x5_2 + 1)), (by first | rfl | (simp; done) | (simp [*]; done)), (by first | rfl | (simp; done) | (simp [*]; done)), H', ⟨by have := HK1.out; have := HK2.out; omega⟩, ⟨by (with_reducible repeat (first | apply Kd.V_alloc | apply Kd.V_drewN | apply Kd.V_drew)); exact HO_0.out⟩, ⟨by (with_reducible repeat (first | apply Kd.N_alloc | apply Kd.N_drewN | apply Kd.N_drew)); exact HO_3.out⟩, ⟨by repeat (first | (with_reducible first | exact HB.out | apply below_alloc | apply pw_below_drewN | apply below_drew1) | exact HB.out)⟩⟩
                        · rw [if_neg c16] at H
                          have c16b0 : decide (x4_2 < 0) = false := decide_eq_false c16
                          clear c16
                          by_cases c17 : 0 ≤ x4_2
                          · rw [if_pos c17] at H
                            have c17b0 : decide (0 ≤ x4_2) = true := decide_eq_true c17
                            clear c17
                            by_cases c18 : x4_2 < (l0.length : Int)
                            · rw [if_pos c18] at H
                              have c18b0 : decide (x4_2 < (l0.length : Int)) = true := decide_eq_true c18
                              clear c18
                              by_cases c19 : ((rd_T30 l0 x5_2).f0) < ((rd_T30 l0 x4_2).f0)
                              · rw [if_pos c19] at H
                                have c19b0 : decide (((rd_T30 l0 x5_2).f0) < ((rd_T30 l0 x4_2).f0)) = true := decide_eq_true c19
                                clear c19
                                have H' := Aside0.mk H
                                clear H
                                have p125 : 0 ≤ (x5_2 : Int) := of_decide_eq_true (by first | (with_reducible assumption) | assumption)
                                have q125 : x5_2 < (l0.length : Int) := of_decide_eq_true (by first | (with_reducible assumption) | assumption)
                                obtain ⟨ad125, A125_1, c125_1, e125, hx125_0, hx125_1, hl125_1, hi125_1⟩ := at_T30 (Kd.V_reads' HO_0.out).2.2 x5_2 p125 q125
                                cases e125
                                obtain ⟨ce125, hce125, hMe125, hcc125⟩ := Kd.V_get HO_0.out z30 x5_2 p125 (by first | exact q125 | exact of_decide_eq_true (by first | (with_reducible assumption) | assumption) | (have e_ := (Kd.V_reads' HO_0.out).1; omega))
                                obtain ⟨ua125_1, uc125_1, rfl, ul125_1, ge125_1⟩ := k30_openF hMe125
                                have hv125_1 := hcc125 1 _ rfl
                                rw [add_field _ _ 1 (by omega)] at hv125_1
                                replace hv125_1 := Option.some.inj (hv125_1.symm.trans hx125_1)
                                injection hv125_1 with hva_ hvn_ hvc_
                                rw [hva_] at ge125_1
                                rw [hvc_] at ul125_1
                                have HL125_1 := Aside0.mk (show Kd.V (Kd.int .i64) 3 _ w.heap.size _ _ ((rd_T30 l0 x5_2).f1) from Kd.V_mk ul125_1 ge125_1)
                                clear hva_ hvn_ hvc_ ge125_1 ul125_1
                                clear hcc125 hce125
                                have HR125_1 := Aside0.mk hi125_1
                                have HC125_1 := Aside0.mk hl125_1
                                clear hi125_1 hl125_1
                                replace p125 := eq_true p125
                                replace q125 := eq_true q125
                                have p126 : 0 ≤ ((ji12) : Int) := of_decide_eq_true (by first | (with_reducible assumption) | assumption)
                                have q126 : (ji12) < (x3_1.length : Int) := of_decide_eq_true (by first | (with_reducible assumption) | assumption)
                                obtain ⟨ad126, A126_1, c126_1, e126, hx126_0, hx126_1, hl126_1, hi126_1⟩ := at_T30 (Kd.N_reads' HO_3.out).2.2 (ji12) p126 q126
                                cases e126
                                obtain ⟨ce126, hce126, hMe126, hcc126⟩ := Kd.N_get HO_3.out z30 (ji12) p126 (by first | exact q126 | exact of_decide_eq_true (by first | (with_reducible assumption) | assumption) | (have e_ := (Kd.N_reads' HO_3.out).1; omega))
                                obtain ⟨ua126_1, uc126_1, rfl, ul126_1, ge126_1⟩ := k30_openF hMe126
                                have hv126_1 := hcc126 1 _ rfl
                                rw [add_field _ _ 1 (by omega)] at hv126_1
                                replace hv126_1 := Option.some.inj (hv126_1.symm.trans hx126_1)
                                injection hv126_1 with hva_ hvn_ hvc_
                                rw [hva_] at ge126_1
                                rw [hvc_] at ul126_1
                                have HL126_1 := Aside0.mk (show Kd.V (Kd.int .i64) 3 _ w.heap.size _ _ ((rd_T30 x3_1 (ji12)).f1) from Kd.V_mk ul126_1 ge126_1)
                                clear hva_ hvn_ hvc_ ge126_1 ul126_1
                                clear hcc126 hce126
                                have HR126_1 := Aside0.mk hi126_1
                                have HC126_1 := Aside0.mk hl126_1
                                clear hi126_1 hl126_1
                                replace p126 := eq_true p126
                                replace q126 := eq_true q126
                                have p127 : 0 ≤ (x5_2 : Int) := of_decide_eq_true (by first | (with_reducible assumption) | assumption)
                                have q127 : x5_2 < (l0.length : Int) := of_decide_eq_true (by first | (with_reducible assumption) | assumption)
                                obtain ⟨ad127, A127_1, c127_1, e127, hx127_0, hx127_1, hl127_1, hi127_1⟩ := at_T30 (Kd.V_reads' HO_0.out).2.2 x5_2 p127 q127
                                obtain rfl : ad125 = ad127 := (by injection e127)
                                obtain ⟨ce127, hce127, hMe127, hcc127⟩ := Kd.V_get HO_0.out z30 x5_2 p127 (by first | exact q127 | exact of_decide_eq_true (by first | (with_reducible assumption) | assumption) | (have e_ := (Kd.V_reads' HO_0.out).1; omega))
                                obtain ⟨ua127_1, uc127_1, rfl, ul127_1, ge127_1⟩ := k30_openF hMe127
                                have hv127_1 := hcc127 1 _ rfl
                                rw [add_field _ _ 1 (by omega)] at hv127_1
                                replace hv127_1 := Option.some.inj (hv127_1.symm.trans hx127_1)
                                injection hv127_1 with hva_ hvn_ hvc_
                                rw [hva_] at ge127_1
                                rw [hvc_] at ul127_1
                                have HL127_1 := Aside0.mk (show Kd.V (Kd.int .i64) 3 _ w.heap.size _ _ ((rd_T30 l0 x5_2).f1) from Kd.V_mk ul127_1 ge127_1)
                                clear hva_ hvn_ hvc_ ge127_1 ul127_1
                                clear hcc127 hce127
                                have HR127_1 := Aside0.mk hi127_1
                                have HC127_1 := Aside0.mk hl127_1
                                clear hi127_1 hl127_1
                                replace p127 := eq_true p127
                                replace q127 := eq_true q127
                                have ea_ := Option.some.inj (hx125_1.symm.trans hx127_1)
                                injection ea_ with ea_ en_ ec_
                                subst ea_
                                subst ec_
                                clear en_
                                have p128 : 0 ≤ (x4_2 : Int) := of_decide_eq_true (by first | (with_reducible assumption) | assumption)
                                have q128 : x4_2 < (l0.length : Int) := of_decide_eq_true (by first | (with_reducible assumption) | assumption)
                                obtain ⟨ad128, A128_1, c128_1, e128, hx128_0, hx128_1, hl128_1, hi128_1⟩ := at_T30 (Kd.V_reads' HO_0.out).2.2 x4_2 p128 q128
                                obtain rfl : ad125 = ad128 := (by injection e128)
                                obtain ⟨ce128, hce128, hMe128, hcc128⟩ := Kd.V_get HO_0.out z30 x4_2 p128 (by first | exact q128 | exact of_decide_eq_true (by first | (with_reducible assumption) | assumption) | (have e_ := (Kd.V_reads' HO_0.out).1; omega))
                                obtain ⟨ua128_1, uc128_1, rfl, ul128_1, ge128_1⟩ := k30_openF hMe128
                                have hv128_1 := hcc128 1 _ rfl
                                rw [add_field _ _ 1 (by omega)] at hv128_1
                                replace hv128_1 := Option.some.inj (hv128_1.symm.trans hx128_1)
                                injection hv128_1 with hva_ hvn_ hvc_
                                rw [hva_] at ge128_1
                                rw [hvc_] at ul128_1
                                have HL128_1 := Aside0.mk (show Kd.V (Kd.int .i64) 3 _ w.heap.size _ _ ((rd_T30 l0 x4_2).f1) from Kd.V_mk ul128_1 ge128_1)
                                clear hva_ hvn_ hvc_ ge128_1 ul128_1
                                clear hcc128 hce128
                                have HR128_1 := Aside0.mk hi128_1
                                have HC128_1 := Aside0.mk hl128_1
                                clear hi128_1 hl128_1
                                replace p128 := eq_true p128
                                replace q128 := eq_true q128
                                go_wp2
                                repeat (go_quiet (fail); try go_wp2)
                                go_roundg k2
                                case measure => have := HK1.out; have := HK2.out; omega
                                case rel => exact ⟨(x5_2), (wrap64 (x5_2 + 1)), (by first | rfl | (simp; done) | (simp [*]; done)), (by first | rfl | (simp; done) | (simp [*]; done)), H', ⟨by have := HK1.out; have := HK2.out; omega⟩, ⟨by (with_reducible repeat (first | apply Kd.V_alloc | apply Kd.V_drewN | apply Kd.V_drew)); exact HO_0.out⟩, ⟨by (with_reducible repeat (first | apply Kd.N_alloc | apply Kd.N_drewN | apply Kd.N_drew)); exact HO_3.out⟩, ⟨by repeat (first | (with_reducible first | exact HB.out | apply below_alloc | apply pw_below_drewN | apply below_drew1) | exact HB.out)⟩⟩
                              · rw [if_neg c19] at H
                                have c19b0 : decide (((rd_T30 l0 x5_2).f0) < ((rd_T30 l0 x4_2).f0)) = false := decide_eq_false c19
                                clear c19
                                have H' := Aside0.mk H
                                clear H
                                have p125 : 0 ≤ (x5_2 : Int) := of_decide_eq_true (by first | (with_reducible assumption) | assumption)
                                have q125 : x5_2 < (l0.length : Int) := of_decide_eq_true (by first | (with_reducible assumption) | assumption)
                                obtain ⟨ad125, A125_1, c125_1, e125, hx125_0, hx125_1, hl125_1, hi125_1⟩ := at_T30 (Kd.V_reads' HO_0.out).2.2 x5_2 p125 q125
                                cases e125
                                obtain ⟨ce125, hce125, hMe125, hcc125⟩ := Kd.V_get HO_0.out z30 x5_2 p125 (by first | exact q125 | exact of_decide_eq_true (by first | (with_reducible assumption) | assumption) | (have e_ := (Kd.V_reads' HO_0.out).1; omega))
                                obtain ⟨ua125_1, uc125_1, rfl, ul125_1, ge125_1⟩ := k30_openF hMe125
                                have hv125_1 := hcc125 1 _ rfl
                                rw [add_field _ _ 1 (by omega)] at hv125_1
                                replace hv125_1 := Option.some.inj (hv125_1.symm.trans hx125_1)
                                injection hv125_1 with hva_ hvn_ hvc_
                                rw [hva_] at ge125_1
                                rw [hvc_] at ul125_1
                                have HL125_1 := Aside0.mk (show Kd.V (Kd.int .i64) 3 _ w.heap.size _ _ ((rd_T30 l0 x5_2).f1) from Kd.V_mk ul125_1 ge125_1)
                                clear hva_ hvn_ hvc_ ge125_1 ul125_1
                                clear hcc125 hce125
                                have HR125_1 := Aside0.mk hi125_1
                                have HC125_1 := Aside0.mk hl125_1
                                clear hi125_1 hl125_1
                                replace p125 := eq_true p125
                                replace q125 := eq_true q125
                                have p126 : 0 ≤ ((ji12) : Int) := of_decide_eq_true (by first | (with_reducible assumption) | assumption)
                                have q126 : (ji12) < (x3_1.length : Int) := of_decide_eq_true (by first | (with_reducible assumption) | assumption)
                                obtain ⟨ad126, A126_1, c126_1, e126, hx126_0, hx126_1, hl126_1, hi126_1⟩ := at_T30 (Kd.N_reads' HO_3.out).2.2 (ji12) p126 q126
                                cases e126
                                obtain ⟨ce126, hce126, hMe126, hcc126⟩ := Kd.N_get HO_3.out z30 (ji12) p126 (by first | exact q126 | exact of_decide_eq_true (by first | (with_reducible assumption) | assumption) | (have e_ := (Kd.N_reads' HO_3.out).1; omega))
                                obtain ⟨ua126_1, uc126_1, rfl, ul126_1, ge126_1⟩ := k30_openF hMe126
                                have hv126_1 := hcc126 1 _ rfl
                                rw [add_field _ _ 1 (by omega)] at hv126_1
                                replace hv126_1 := Option.some.inj (hv126_1.symm.trans hx126_1)
                                injection hv126_1 with hva_ hvn_ hvc_
                                rw [hva_] at ge126_1
                                rw [hvc_] at ul126_1
                                have HL126_1 := Aside0.mk (show Kd.V (Kd.int .i64) 3 _ w.heap.size _ _ ((rd_T30 x3_1 (ji12)).f1) from Kd.V_mk ul126_1 ge126_1)
                                clear hva_ hvn_ hvc_ ge126_1 ul126_1
                                clear hcc126 hce126
                                have HR126_1 := Aside0.mk hi126_1
                                have HC126_1 := Aside0.mk hl126_1
                                clear hi126_1 hl126_1
                                replace p126 := eq_true p126
                                replace q126 := eq_true q126
                                have p127 : 0 ≤ (x5_2 : Int) := of_decide_eq_true (by first | (with_reducible assumption) | assumption)
                                have q127 : x5_2 < (l0.length : Int) := of_decide_eq_true (by first | (with_reducible assumption) | assumption)
                                obtain ⟨ad127, A127_1, c127_1, e127, hx127_0, hx127_1, hl127_1, hi127_1⟩ := at_T30 (Kd.V_reads' HO_0.out).2.2 x5_2 p127 q127
                                obtain rfl : ad125 = ad127 := (by injection e127)
                                obtain ⟨ce127, hce127, hMe127, hcc127⟩ := Kd.V_get HO_0.out z30 x5_2 p127 (by first | exact q127 | exact of_decide_eq_true (by first | (with_reducible assumption) | assumption) | (have e_ := (Kd.V_reads' HO_0.out).1; omega))
                                obtain ⟨ua127_1, uc127_1, rfl, ul127_1, ge127_1⟩ := k30_openF hMe127
                                have hv127_1 := hcc127 1 _ rfl
                                rw [add_field _ _ 1 (by omega)] at hv127_1
                                replace hv127_1 := Option.some.inj (hv127_1.symm.trans hx127_1)
                                injection hv127_1 with hva_ hvn_ hvc_
                                rw [hva_] at ge127_1
                                rw [hvc_] at ul127_1
                                have HL127_1 := Aside0.mk (show Kd.V (Kd.int .i64) 3 _ w.heap.size _ _ ((rd_T30 l0 x5_2).f1) from Kd.V_mk ul127_1 ge127_1)
                                clear hva_ hvn_ hvc_ ge127_1 ul127_1
                                clear hcc127 hce127
                                have HR127_1 := Aside0.mk hi127_1
                                have HC127_1 := Aside0.mk hl127_1
                                clear hi127_1 hl127_1
                                replace p127 := eq_true p127
                                replace q127 := eq_true q127
                                have ea_ := Option.some.inj (hx125_1.symm.trans hx127_1)
                                injection ea_ with ea_ en_ ec_
                                subst ea_
                                subst ec_
                                clear en_
                                have p128 : 0 ≤ (x4_2 : Int) := of_decide_eq_true (by first | (with_reducible assumption) | assumption)
                                have q128 : x4_2 < (l0.length : Int) := of_decide_eq_true (by first | (with_reducible assumption) | assumption)
                                obtain ⟨ad128, A128_1, c128_1, e128, hx128_0, hx128_1, hl128_1, hi128_1⟩ := at_T30 (Kd.V_reads' HO_0.out).2.2 x4_2 p128 q128
                                obtain rfl : ad125 = ad128 := (by injection e128)
                                obtain ⟨ce128, hce128, hMe128, hcc128⟩ := Kd.V_get HO_0.out z30 x4_2 p128 (by first | exact q128 | exact of_decide_eq_true (by first | (with_reducible assumption) | assumption) | (have e_ := (Kd.V_reads' HO_0.out).1; omega))
                                obtain ⟨ua128_1, uc128_1, rfl, ul128_1, ge128_1⟩ := k30_openF hMe128
                                have hv128_1 := hcc128 1 _ rfl
                                rw [add_field _ _ 1 (by omega)] at hv128_1
                                replace hv128_1 := Option.some.inj (hv128_1.symm.trans hx128_1)
                                injection hv128_1 with hva_ hvn_ hvc_
                                rw [hva_] at ge128_1
                                rw [hvc_] at ul128_1
                                have HL128_1 := Aside0.mk (show Kd.V (Kd.int .i64) 3 _ w.heap.size _ _ ((rd_T30 l0 x4_2).f1) from Kd.V_mk ul128_1 ge128_1)
                                clear hva_ hvn_ hvc_ ge128_1 ul128_1
                                clear hcc128 hce128
                                have HR128_1 := Aside0.mk hi128_1
                                have HC128_1 := Aside0.mk hl128_1
                                clear hi128_1 hl128_1
                                replace p128 := eq_true p128
                                replace q128 := eq_true q128
                                go_wp2
                                repeat (go_quiet (fail); try go_wp2)
                                go_roundg k2
                                case measure => have := HK1.out; have := HK2.out; omega
                                case rel => exact ⟨(x4_2), (wrap64 (x5_2 + 1)), (by first | rfl | (simp; done) | (simp [*]; done)), (by first | rfl | (simp; done) | (simp [*]; done)), H', ⟨by have := HK1.out; have := HK2.out; omega⟩, ⟨by (with_reducible repeat (first | apply Kd.V_alloc | apply Kd.V_drewN | apply Kd.V_drew)); exact HO_0.out⟩, ⟨by (with_reducible repeat (first | apply Kd.N_alloc | apply Kd.N_drewN | apply Kd.N_drew)); exact HO_3.out⟩, ⟨by repeat (first | (with_reducible first | exact HB.out | apply below_alloc | apply pw_below_drewN | apply below_drew1) | exact HB.out)⟩⟩
                            · rw [if_neg c18] at H
                              exact absurd H (by simp)
                          · rw [if_neg c17] at H
                            exact absurd H (by simp)
                      · rw [if_neg c15] at H
                        have c15b0 : decide (((rd_T30 x3_1 (ji12)).f0) < ((rd_T30 l0 x5_2).f0)) = false := decide_eq_false c15
                        clear c15
                        have H' := Aside0.mk H
                        clear H
                        have p125 : 0 ≤ (x5_2 : Int) := of_decide_eq_true (by first | (with_reducible assumption) | assumption)
                        have q125 : x5_2 < (l0.length : Int) := of_decide_eq_true (by first | (with_reducible assumption) | assumption)
                        obtain ⟨ad125, A125_1, c125_1, e125, hx125_0, hx125_1, hl125_1, hi125_1⟩ := at_T30 (Kd.V_reads' HO_0.out).2.2 x5_2 p125 q125
                        cases e125
                        obtain ⟨ce125, hce125, hMe125, hcc125⟩ := Kd.V_get HO_0.out z30 x5_2 p125 (by first | exact q125 | exact of_decide_eq_true (by first | (with_reducible assumption) | assumption) | (have e_ := (Kd.V_reads' HO_0.out).1; omega))
                        obtain ⟨ua125_1, uc125_1, rfl, ul125_1, ge125_1⟩ := k30_openF hMe125
                        have hv125_1 := hcc125 1 _ rfl
                        rw [add_field _ _ 1 (by omega)] at hv125_1
                        replace hv125_1 := Option.some.inj (hv125_1.symm.trans hx125_1)
                        injection hv125_1 with hva_ hvn_ hvc_
                        rw [hva_] at ge125_1
                        rw [hvc_] at ul125_1
                        have HL125_1 := Aside0.mk (show Kd.V (Kd.int .i64) 3 _ w.heap.size _ _ ((rd_T30 l0 x5_2).f1) from Kd.V_mk ul125_1 ge125_1)
                        clear hva_ hvn_ hvc_ ge125_1 ul125_1
                        clear hcc125 hce125
                        have HR125_1 := Aside0.mk hi125_1
                        have HC125_1 := Aside0.mk hl125_1
                        clear hi125_1 hl125_1
                        replace p125 := eq_true p125
                        replace q125 := eq_true q125
                        have p126 : 0 ≤ ((ji12) : Int) := of_decide_eq_true (by first | (with_reducible assumption) | assumption)
                        have q126 : (ji12) < (x3_1.length : Int) := of_decide_eq_true (by first | (with_reducible assumption) | assumption)
                        obtain ⟨ad126, A126_1, c126_1, e126, hx126_0, hx126_1, hl126_1, hi126_1⟩ := at_T30 (Kd.N_reads' HO_3.out).2.2 (ji12) p126 q126
                        cases e126
                        obtain ⟨ce126, hce126, hMe126, hcc126⟩ := Kd.N_get HO_3.out z30 (ji12) p126 (by first | exact q126 | exact of_decide_eq_true (by first | (with_reducible assumption) | assumption) | (have e_ := (Kd.N_reads' HO_3.out).1; omega))
                        obtain ⟨ua126_1, uc126_1, rfl, ul126_1, ge126_1⟩ := k30_openF hMe126
                        have hv126_1 := hcc126 1 _ rfl
                        rw [add_field _ _ 1 (by omega)] at hv126_1
                        replace hv126_1 := Option.some.inj (hv126_1.symm.trans hx126_1)
                        injection hv126_1 with hva_ hvn_ hvc_
                        rw [hva_] at ge126_1
                        rw [hvc_] at ul126_1
                        have HL126_1 := Aside0.mk (show Kd.V (Kd.int .i64) 3 _ w.heap.size _ _ ((rd_T30 x3_1 (ji12)).f1) from Kd.V_mk ul126_1 ge126_1)
                        clear hva_ hvn_ hvc_ ge126_1 ul126_1
                        clear hcc126 hce126
                        have HR126_1 := Aside0.mk hi126_1
                        have HC126_1 := Aside0.mk hl126_1
                        clear hi126_1 hl126_1
                        replace p126 := eq_true p126
                        replace q126 := eq_true q126
                        go_wp2
                        repeat (go_quiet (fail); try go_wp2)
                        go_roundg k2
                        case measure => have := HK1.out; have := HK2.out; omega
                        case rel => exact ⟨(x4_2), (wrap64 (x5_2 + 1)), (by first | rfl | (simp; done) | (simp [*]; done)), (by first | rfl | (simp; done) | (simp [*]; done)), H', ⟨by have := HK1.out; have := HK2.out; omega⟩, ⟨by (with_reducible repeat (first | apply Kd.V_alloc | apply Kd.V_drewN | apply Kd.V_drew)); exact HO_0.out⟩, ⟨by (with_reducible repeat (first | apply Kd.N_alloc | apply Kd.N_drewN | apply Kd.N_drew)); exact HO_3.out⟩, ⟨by repeat (first | (with_reducible first | exact HB.out | apply below_alloc | apply pw_below_drewN | apply below_drew1) | exact HB.out)⟩⟩
                    · rw [if_neg c14] at H
                      exact absurd H (by simp)
                  · rw [if_neg c13] at H
                    exact absurd H (by simp)
                · rw [if_neg c11] at H
                  exact absurd H (by simp)
            · rw [if_neg c4] at H
              have c4b0 : decide (x5_2 < (l0.length : Int)) = false := decide_eq_false c4
              clear c4
              by_cases c20 : 0 ≤ x4_2
              · rw [if_pos c20] at H
                have c20b0 : decide (0 ≤ x4_2) = true := decide_eq_true c20
                clear c20
                by_cases c21 : x4_2 < (l0.length : Int)
                · rw [if_pos c21] at H
                  have c21b0 : decide (x4_2 < (l0.length : Int)) = true := decide_eq_true c21
                  clear c21
                  by_cases c22 : x3_1.length < 4398046511104
                  · rw [if_pos c22] at H
                    have LMc22 := Aside0.mk c22
                    clear c22
                    obtain ⟨y130, hy130⟩ : ∃ y_ : List (S30), y_ = (x3_1 ++ [(⟨(rd_T30 l0 x4_2).f0, (rd_T30 l0 x4_2).f1⟩ : S30)]) := ⟨_, rfl⟩
                    replace H : (lodestoneref05_sorted.l0 k2 l0 y130) = some r := by first | (rw [hy130]; with_reducible exact H) | (have H2_ := (Option.bind_some _ _).symm.trans H; rw [hy130]; with_reducible exact H2_) | (have H2_ := (Option.bind_some _ _).symm.trans H; with_reducible exact H2_) | with_reducible exact H | (rw [hy130]; exact H) | exact H
                    have Ny130 := Aside0.mk hy130
                    clear hy130
                    have H' := Aside0.mk H
                    clear H
                    have p129 : 0 ≤ (x4_2 : Int) := of_decide_eq_true (by first | (with_reducible assumption) | assumption)
                    have q129 : x4_2 < (l0.length : Int) := of_decide_eq_true (by first | (with_reducible assumption) | assumption)
                    obtain ⟨ad129, A129_1, c129_1, e129, hx129_0, hx129_1, hl129_1, hi129_1⟩ := at_T30 (Kd.V_reads' HO_0.out).2.2 x4_2 p129 q129
                    cases e129
                    obtain ⟨ce129, hce129, hMe129, hcc129⟩ := Kd.V_get HO_0.out z30 x4_2 p129 (by first | exact q129 | exact of_decide_eq_true (by first | (with_reducible assumption) | assumption) | (have e_ := (Kd.V_reads' HO_0.out).1; omega))
                    obtain ⟨ua129_1, uc129_1, rfl, ul129_1, ge129_1⟩ := k30_openF hMe129
                    have hv129_1 := hcc129 1 _ rfl
                    rw [add_field _ _ 1 (by omega)] at hv129_1
                    replace hv129_1 := Option.some.inj (hv129_1.symm.trans hx129_1)
                    injection hv129_1 with hva_ hvn_ hvc_
                    rw [hva_] at ge129_1
                    rw [hvc_] at ul129_1
                    have HL129_1 := Aside0.mk (show Kd.V (Kd.int .i64) 3 _ w.heap.size _ _ ((rd_T30 l0 x4_2).f1) from Kd.V_mk ul129_1 ge129_1)
                    clear hva_ hvn_ hvc_ ge129_1 ul129_1
                    clear hcc129 hce129
                    have HR129_1 := Aside0.mk hi129_1
                    have HC129_1 := Aside0.mk hl129_1
                    clear hi129_1 hl129_1
                    replace p129 := eq_true p129
                    replace q129 := eq_true q129
                    go_wp2_with (first | ((with_reducible refine gate_builtin (b := .append) (xs := #[.tmp 55, .tmp 60]) rfl ?_); (try (refine gate_guard (by rfl) ?_; dsimp only)); at_builtin; refine Kd.N_append k30 (w0 := w) w.heap.size rfl (.tmp 55) (.tmp 60) 25 30 (.agg #[(.int .i64 0), (.slice none 0 0)]) 32 rfl Tryd.underlying25 info30 rfl (by decide) (by omega) (.slice Ao3 x3_1.length co3) x3_1 (⟨(rd_T30 l0 x4_2).f0, (rd_T30 l0 x4_2).f1⟩ : S30) [.int .i64 ((rd_T30 l0 x4_2).f0), .slice A129_1 ((rd_T30 l0 x4_2).f1).length c129_1] (fun k_ => (P0_ k_ ∨ w.heap.size ≤ k_)) (fun k_ => ((fun k_ => (P0_ k_ ∨ w.heap.size ≤ k_))) k_ ∧ some k_ ≠ (.slice Ao3 x3_1.length co3 : Value).ownBlock) rfl rfl ?aP (fun _ hk => hk) ?aF ?aO ?aB ?aS ?aL ?_; (case aP => exact (k30_mkF _ _ (⟨(rd_T30 l0 x4_2).f0, (rd_T30 l0 x4_2).f1⟩ : S30) (Kd.V_reads' (Kd.V_mono (ok' := (fun k_ => ((fun k_ => (P0_ k_ ∨ w.heap.size ≤ k_))) k_ ∧ some k_ ≠ (.slice Ao3 x3_1.length co3 : Value).ownBlock)) (HL129_1.out) (fun k_ hk => ⟨hk.1, hk.2⟩))).2.1 (Kd.V_F (Kd.V_mono (ok' := (fun k_ => ((fun k_ => (P0_ k_ ∨ w.heap.size ≤ k_))) k_ ∧ some k_ ≠ (.slice Ao3 x3_1.length co3 : Value).ownBlock)) (HL129_1.out) (fun k_ hk => ⟨hk.1, hk.2⟩))))); (case aB => exact (by repeat (first | (with_reducible first | exact HB.out | apply below_alloc | apply pw_below_drewN | apply below_drew1) | exact HB.out))); (case aF => exact (fun k_ hk => (.inr (Nat.le_trans (below_size (by repeat (first | (with_reducible first | exact HB.out | apply below_alloc | apply pw_below_drewN | apply below_drew1) | exact HB.out))) hk)))); (case aO => exact (by (with_reducible repeat (first | apply Kd.N_alloc | apply Kd.N_drewN | apply Kd.N_drew)); exact HO_3.out)); (case aS => exact (below_size (by repeat (first | (with_reducible first | exact HB.out | apply below_alloc | apply pw_below_drewN | apply below_drew1) | exact HB.out)))); (case aL => have := LMc22.out; omega); intro v131 w23 ho hb hg hat; rw [← Ny130.out] at ho; have n0_ := Aside0.mk (Kd.V_afterv (ok := (fun k_ => (P0_ k_ ∨ w.heap.size ≤ k_))) (by (with_reducible repeat (first | apply Kd.V_alloc | apply Kd.V_drewN | apply Kd.V_drew)); exact HO_0.out) hg hat); have n1_ := Aside0.mk (Kd.V_afterv (ok := (fun k_ => (P0_ k_ ∨ w.heap.size ≤ k_))) (by (with_reducible repeat (first | apply Kd.V_alloc | apply Kd.V_drewN | apply Kd.V_drew)); exact HL129_1.out) hg hat); have n2_ := Aside0.mk (hb); have n3_ := Aside0.mk (ho); clear HO_0; clear HL129_1; clear HB; clear HO_3; have HO_0 := n0_; have HL129_1 := n1_; have HB := n2_; have HO132 := n3_; clear n0_ n1_ n2_ n3_; clear ho hb hg hat))
                    repeat (go_quiet (first | ((with_reducible refine gate_builtin (b := .append) (xs := #[.tmp 55, .tmp 60]) rfl ?_); (try (refine gate_guard (by rfl) ?_; dsimp only)); at_builtin; refine Kd.N_append k30 (w0 := w) w.heap.size rfl (.tmp 55) (.tmp 60) 25 30 (.agg #[(.int .i64 0), (.slice none 0 0)]) 32 rfl Tryd.underlying25 info30 rfl (by decide) (by omega) (.slice Ao3 x3_1.length co3) x3_1 (⟨(rd_T30 l0 x4_2).f0, (rd_T30 l0 x4_2).f1⟩ : S30) [.int .i64 ((rd_T30 l0 x4_2).f0), .slice A129_1 ((rd_T30 l0 x4_2).f1).length c129_1] (fun k_ => (P0_ k_ ∨ w.heap.size ≤ k_)) (fun k_ => ((fun k_ => (P0_ k_ ∨ w.heap.size ≤ k_))) k_ ∧ some k_ ≠ (.slice Ao3 x3_1.length co3 : Value).ownBlock) rfl rfl ?aP (fun _ hk => hk) ?aF ?aO ?aB ?aS ?aL ?_; (case aP => exact (k30_mkF _ _ (⟨(rd_T30 l0 x4_2).f0, (rd_T30 l0 x4_2).f1⟩ : S30) (Kd.V_reads' (Kd.V_mono (ok' := (fun k_ => ((fun k_ => (P0_ k_ ∨ w.heap.size ≤ k_))) k_ ∧ some k_ ≠ (.slice Ao3 x3_1.length co3 : Value).ownBlock)) (HL129_1.out) (fun k_ hk => ⟨hk.1, hk.2⟩))).2.1 (Kd.V_F (Kd.V_mono (ok' := (fun k_ => ((fun k_ => (P0_ k_ ∨ w.heap.size ≤ k_))) k_ ∧ some k_ ≠ (.slice Ao3 x3_1.length co3 : Value).ownBlock)) (HL129_1.out) (fun k_ hk => ⟨hk.1, hk.2⟩))))); (case aB => exact (by repeat (first | (with_reducible first | exact HB.out | apply below_alloc | apply pw_below_drewN | apply below_drew1) | exact HB.out))); (case aF => exact (fun k_ hk => (.inr (Nat.le_trans (below_size (by repeat (first | (with_reducible first | exact HB.out | apply below_alloc | apply pw_below_drewN | apply below_drew1) | exact HB.out))) hk)))); (case aO => exact (by (with_reducible repeat (first | apply Kd.N_alloc | apply Kd.N_drewN | apply Kd.N_drew)); exact HO_3.out)); (case aS => exact (below_size (by repeat (first | (with_reducible first | exact HB.out | apply below_alloc | apply pw_below_drewN | apply below_drew1) | exact HB.out)))); (case aL => have := LMc22.out; omega); intro v131 w23 ho hb hg hat; rw [← Ny130.out] at ho; have n0_ := Aside0.mk (Kd.V_afterv (ok := (fun k_ => (P0_ k_ ∨ w.heap.size ≤ k_))) (by (with_reducible repeat (first | apply Kd.V_alloc | apply Kd.V_drewN | apply Kd.V_drew)); exact HO_0.out) hg hat); have n1_ := Aside0.mk (Kd.V_afterv (ok := (fun k_ => (P0_ k_ ∨ w.heap.size ≤ k_))) (by (with_reducible repeat (first | apply Kd.V_alloc | apply Kd.V_drewN | apply Kd.V_drew)); exact HL129_1.out) hg hat); have n2_ := Aside0.mk (hb); have n3_ := Aside0.mk (ho); clear HO_0; clear HL129_1; clear HB; clear HO_3; have HO_0 := n0_; have HL129_1 := n1_; have HB := n2_; have HO132 := n3_; clear n0_ n1_ n2_ n3_; clear ho hb hg hat)); try go_wp2_with (first | ((with_reducible refine gate_builtin (b := .append) (xs := #[.tmp 55, .tmp 60]) rfl ?_); (try (refine gate_guard (by rfl) ?_; dsimp only)); at_builtin; refine Kd.N_append k30 (w0 := w) w.heap.size rfl (.tmp 55) (.tmp 60) 25 30 (.agg #[(.int .i64 0), (.slice none 0 0)]) 32 rfl Tryd.underlying25 info30 rfl (by decide) (by omega) (.slice Ao3 x3_1.length co3) x3_1 (⟨(rd_T30 l0 x4_2).f0, (rd_T30 l0 x4_2).f1⟩ : S30) [.int .i64 ((rd_T30 l0 x4_2).f0), .slice A129_1 ((rd_T30 l0 x4_2).f1).length c129_1] (fun k_ => (P0_ k_ ∨ w.heap.size ≤ k_)) (fun k_ => ((fun k_ => (P0_ k_ ∨ w.heap.size ≤ k_))) k_ ∧ some k_ ≠ (.slice Ao3 x3_1.length co3 : Value).ownBlock) rfl rfl ?aP (fun _ hk => hk) ?aF ?aO ?aB ?aS ?aL ?_; (case aP => exact (k30_mkF _ _ (⟨(rd_T30 l0 x4_2).f0, (rd_T30 l0 x4_2).f1⟩ : S30) (Kd.V_reads' (Kd.V_mono (ok' := (fun k_ => ((fun k_ => (P0_ k_ ∨ w.heap.size ≤ k_))) k_ ∧ some k_ ≠ (.slice Ao3 x3_1.length co3 : Value).ownBlock)) (HL129_1.out) (fun k_ hk => ⟨hk.1, hk.2⟩))).2.1 (Kd.V_F (Kd.V_mono (ok' := (fun k_ => ((fun k_ => (P0_ k_ ∨ w.heap.size ≤ k_))) k_ ∧ some k_ ≠ (.slice Ao3 x3_1.length co3 : Value).ownBlock)) (HL129_1.out) (fun k_ hk => ⟨hk.1, hk.2⟩))))); (case aB => exact (by repeat (first | (with_reducible first | exact HB.out | apply below_alloc | apply pw_below_drewN | apply below_drew1) | exact HB.out))); (case aF => exact (fun k_ hk => (.inr (Nat.le_trans (below_size (by repeat (first | (with_reducible first | exact HB.out | apply below_alloc | apply pw_below_drewN | apply below_drew1) | exact HB.out))) hk)))); (case aO => exact (by (with_reducible repeat (first | apply Kd.N_alloc | apply Kd.N_drewN | apply Kd.N_drew)); exact HO_3.out)); (case aS => exact (below_size (by repeat (first | (with_reducible first | exact HB.out | apply below_alloc | apply pw_below_drewN | apply below_drew1) | exact HB.out)))); (case aL => have := LMc22.out; omega); intro v131 w23 ho hb hg hat; rw [← Ny130.out] at ho; have n0_ := Aside0.mk (Kd.V_afterv (ok := (fun k_ => (P0_ k_ ∨ w.heap.size ≤ k_))) (by (with_reducible repeat (first | apply Kd.V_alloc | apply Kd.V_drewN | apply Kd.V_drew)); exact HO_0.out) hg hat); have n1_ := Aside0.mk (Kd.V_afterv (ok := (fun k_ => (P0_ k_ ∨ w.heap.size ≤ k_))) (by (with_reducible repeat (first | apply Kd.V_alloc | apply Kd.V_drewN | apply Kd.V_drew)); exact HL129_1.out) hg hat); have n2_ := Aside0.mk (hb); have n3_ := Aside0.mk (ho); clear HO_0; clear HL129_1; clear HB; clear HO_3; have HO_0 := n0_; have HL129_1 := n1_; have HB := n2_; have HO132 := n3_; clear n0_ n1_ n2_ n3_; clear ho hb hg hat)))
                    go_roundg k2
                    case measure => have := HK1.out; have := HK2.out; omega
                    case rel => exact ⟨(y130), H', ⟨by have := HK1.out; have := HK2.out; omega⟩, ⟨by (with_reducible repeat (first | apply Kd.V_alloc | apply Kd.V_drewN | apply Kd.V_drew)); exact HO_0.out⟩, ⟨by (with_reducible repeat (first | apply Kd.N_alloc | apply Kd.N_drewN | apply Kd.N_drew)); exact HO132.out⟩, ⟨by repeat (first | (with_reducible first | exact HB.out | apply below_alloc | apply pw_below_drewN | apply below_drew1) | exact HB.out)⟩⟩
                  · rw [if_neg c22] at H
                    exact absurd H (by simp)
                · rw [if_neg c21] at H
                  exact absurd H (by simp)
              · rw [if_neg c20] at H
                exact absurd H (by simp)
      · rw [if_neg c2] at H
        have c2b0 : decide ((x3_1.length : Int) < (l0.length : Int)) = false := decide_eq_false c2
        have c2b1 : decide (x3_1.length < l0.length) = false := decide_eq_false (fun h => c2 (Int.ofNat_lt.mpr h))
        clear c2
        obtain rfl := Option.some.inj H
        obtain ⟨Ao24, co24, eo24⟩ := Kd.N_slice HO_3.out
        subst eo24
        go_wp2
        repeat (go_quiet (fail); try go_wp2)
        go_ret
        exact ⟨_, by first | rfl | (simp [errW_none, errW_some] <;> rfl) | (simp [*, errW_none, errW_some] <;> rfl), by (with_reducible repeat (first | apply Kd.N_alloc | apply Kd.N_drewN | apply Kd.N_drew)); exact HO_3.out, by repeat (first | (with_reducible first | exact HB.out | apply below_alloc | apply pw_below_drewN | apply below_drew1) | exact HB.out)⟩

end Go.Proofs.YtjckddaaeiffpaaDoor.Z
