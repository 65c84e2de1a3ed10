-- Printed by drv.py (wip), which runs the kit's print over functions some of which are given. Lean checks it.
import Derived.Test.YtjckddaaeiffpaaDoorZ0
import Derived.Test.YtjckddaaeiffpaaDoorZ0e
import Derived.Test.YtjckddaaeiffpaaDoorExtRefName
namespace Go.Proofs.YtjckddaaeiffpaaDoor.Z
open Go.RowKit Go.Proofs.YtjckddaaeiffpaaDoorW.PrintWords Go.Proofs.YtjckddaaeiffpaaDoorW.PrintLast Go.Proofs.YtjckddaaeiffpaaDoorW.PrintMore
attribute [local go_sem] max2_int min2_int max_two min_two max_three min_three max_four min_four   -- for this text's walks alone
set_option linter.unusedVariables false
set_option linter.unusedSimpArgs false

noncomputable section
/-! ### lodestoneref03_Marked: function 72 -/
def lodestoneref03_Marked.f (a0 : ByteArray) : Option (Bool) := if (a0.size : Int) > 0 then (if 0 ≤ (wrap64 ((a0.size : Int) - 1)) then (if (wrap64 ((a0.size : Int) - 1)) < (a0.size : Int) then (if (bt a0 (wrap64 ((a0.size : Int) - 1))) = 35 then (if (wrap64 ((a0.size : Int) - 1)) ≤ (a0.size : Int) then ((lodestoneref03_Name.f (a0.extract 0 ((wrap64 ((a0.size : Int) - 1)) : Int).toNat)).bind fun t101 => (some t101)) else (none)) else (some false)) else (none)) else (none)) else (some false)
set_option maxHeartbeats 8000000 in
set_option maxRecDepth 100000 in
theorem lodestoneref03_Marked.calls (a0 : ByteArray) (r : Bool) (w : World) (h : lodestoneref03_Marked.f a0 = some r) :
    Calls Tryd.prog 72 #[.string a0] w fun e w' => e = .returned (.bool r) ∧ Below w.heap.size w w' := by
  have HB := Aside0.mk (Below.refl w.heap.size w)
  have H : (if (a0.size : Int) > 0 then (if 0 ≤ (wrap64 ((a0.size : Int) - 1)) then (if (wrap64 ((a0.size : Int) - 1)) < (a0.size : Int) then (if (bt a0 (wrap64 ((a0.size : Int) - 1))) = 35 then (if (wrap64 ((a0.size : Int) - 1)) ≤ (a0.size : Int) then ((lodestoneref03_Name.f (a0.extract 0 ((wrap64 ((a0.size : Int) - 1)) : Int).toNat)).bind fun t101 => (some t101)) else (none)) else (some false)) else (none)) else (none)) else (some false)) = some r := h
  clear h
  by_cases c2 : (a0.size : Int) > 0
  · rw [if_pos c2] at H
    have c2b0 : decide (0 < (a0.size : Int)) = true := decide_eq_true c2
    have c2b1 : decide (0 < a0.size) = true := decide_eq_true (by omega)
    clear c2
    obtain ⟨ji3, hji3⟩ : ∃ j_ : Int, (wrap64 ((a0.size : Int) - 1)) = j_ := ⟨_, rfl⟩
    replace H : (if 0 ≤ (ji3) then (if (ji3) < (a0.size : Int) then (if (bt a0 (ji3)) = 35 then (if (ji3) ≤ (a0.size : Int) then ((lodestoneref03_Name.f (a0.extract 0 ((ji3) : Int).toNat)).bind fun t101 => (some t101)) else (none)) else (some false)) else (none)) else (none)) = some r := by first | (rw [hji3] at H; exact H) | (simp only [hji3] at H ⊢; exact H)
    have hji3w : (IntKind.i64.wrap ((a0.size : Int) - 1)) = ji3 := (i64_w _).trans hji3
    by_cases c4 : 0 ≤ (ji3)
    · rw [if_pos c4] at H
      have c4b0 : decide (0 ≤ (ji3)) = true := decide_eq_true c4
      clear c4
      by_cases c5 : (ji3) < (a0.size : Int)
      · rw [if_pos c5] at H
        have c5b0 : decide ((ji3) < (a0.size : Int)) = true := decide_eq_true c5
        clear c5
        by_cases c7 : (bt a0 (ji3)) = 35
        · rw [if_pos c7] at H
          have c7b0 : ((bt a0 (ji3)) == 35) = true := beq_iff_eq.mpr c7
          have c7b1 : ((bt a0 (ji3)) != 35) = false := bne_eq_false_iff_eq.mpr c7
          clear c7
          have c8b0 := eq_true (of_decide_eq_true (by first | (with_reducible assumption) | assumption) : 0 ≤ (ji3))
          by_cases c9 : (ji3) ≤ (a0.size : Int)
          · rw [if_pos c9] at H
            have c9b0 := eq_true c9
            have c9b1 : decide ((ji3) ≤ (a0.size : Int)) = true := decide_eq_true c9
            clear c9
            replace H := Option.bind_eq_some_iff.mp H
            obtain ⟨t101, A100, H⟩ := H
            replace H : (some t101) = some r := H
            have A10 := Aside0.mk A100
            clear A100
            obtain rfl := Option.some.inj H
            have p6 : 0 ≤ ((ji3) : Int) := of_decide_eq_true (by first | (with_reducible assumption) | assumption)
            have q6 : (ji3) < (a0.size : Int) := of_decide_eq_true (by first | (with_reducible assumption) | assumption)
            have hx6 := bt_at a0 (ji3)
            replace p6 := eq_true p6
            replace q6 := eq_true q6
            go_enter Tryd.func72, Tryd.ntmps72
            go_wp2_with (first | (go_at_call 71; (with_reducible refine (lodestoneref03_Name.calls (a0.extract 0 ((ji3) : Int).toNat) t101 _ A10.out).mono ?_); rintro e w11 ⟨rfl, hb⟩; have n0_ := Aside0.mk (below_step (by repeat (first | (with_reducible first | exact HB.out | apply below_alloc | apply pw_below_drewN | apply below_drew1) | exact HB.out)) hb); clear HB; have HB := n0_; clear n0_; (try clear hb); (try clear hb2); (try clear hk); (try clear hi)))
            go_ret
            exact ⟨by first | rfl | (simp [errW_none, errW_some] <;> rfl) | (simp only [← hji3]; first | rfl | (simp [errW_none, errW_some] <;> rfl)) | (simp [*, errW_none, errW_some] <;> rfl), by repeat (first | (with_reducible first | exact HB.out | apply below_alloc | apply pw_below_drewN | apply below_drew1) | exact HB.out)⟩
          · rw [if_neg c9] at H
            exact absurd H (by simp)
        · rw [if_neg c7] at H
          have c7b0 : ((bt a0 (ji3)) == 35) = false := beq_eq_false_iff_ne.mpr c7
          have c7b1 : ((bt a0 (ji3)) != 35) = true := bne_iff_ne.mpr c7
          obtain rfl := Option.some.inj H
          have p6 : 0 ≤ ((ji3) : Int) := of_decide_eq_true (by first | (with_reducible assumption) | assumption)
          have q6 : (ji3) < (a0.size : Int) := of_decide_eq_true (by first | (with_reducible assumption) | assumption)
          have hx6 := bt_at a0 (ji3)
          replace p6 := eq_true p6
          replace q6 := eq_true q6
          go_enter Tryd.func72, Tryd.ntmps72
          go_wp2
          go_ret
          exact ⟨by first | rfl | (simp [errW_none, errW_some] <;> rfl) | (simp only [← hji3]; first | rfl | (simp [errW_none, errW_some] <;> rfl)) | (simp [*, errW_none, errW_some] <;> rfl), by repeat (first | (with_reducible first | exact HB.out | apply below_alloc | apply pw_below_drewN | apply below_drew1) | exact HB.out)⟩
      · rw [if_neg c5] at H
        exact absurd H (by simp)
    · rw [if_neg c4] at H
      exact absurd H (by simp)
  · rw [if_neg c2] at H
    have c2b0 : decide (0 < (a0.size : Int)) = false := decide_eq_false c2
    have c2b1 : decide (0 < a0.size) = false := decide_eq_false (by omega)
    clear c2
    obtain rfl := Option.some.inj H
    go_enter Tryd.func72, Tryd.ntmps72
    go_wp2
    go_ret
    exact ⟨by first | rfl | (simp [errW_none, errW_some] <;> rfl) | (simp [*, errW_none, errW_some] <;> rfl), by repeat (first | (with_reducible first | exact HB.out | apply below_alloc | apply pw_below_drewN | apply below_drew1) | exact HB.out)⟩

/-! ### lodestoneref03_CheckSig: function 47 -/
mutual
def lodestoneref03_CheckSig.l0 : Nat → List (S85) → Int → Option (Int)
  | 0, _, _ => none
  | k + 1, x0, x3 => if x3 < (x0.length : Int) then (if 0 ≤ x3 then ((lodestoneref03_Name.f ((rd_T85 x0 x3).f0)).bind fun t103 => (if t103 = true then (lodestoneref03_CheckSig.j1 k x0 x3 false) else ((lodestoneref03_Marked.f ((rd_T85 x0 x3).f0)).bind fun t105 => (lodestoneref03_CheckSig.j1 k x0 x3 (!t105))))) else (none)) else (some 0)
def lodestoneref03_CheckSig.j1 : Nat → List (S85) → Int → Bool → Option (Int)
  | 0, _, _, _ => none
  | k + 1, x0, x3, x29 => if x29 = true then (some 34) else (if 0 ≤ x3 then (if x3 < (x0.length : Int) then (if ((rd_T85 x0 x3).f1) < 0 then (lodestoneref03_CheckSig.j2 k x0 x3 true) else (lodestoneref03_CheckSig.j2 k x0 x3 (decide (((rd_T85 x0 x3).f1) > 8)))) else (none)) else (none))
def lodestoneref03_CheckSig.j2 : Nat → List (S85) → Int → Bool → Option (Int)
  | 0, _, _, _ => none
  | k + 1, x0, x3, x43 => if x43 = true then (some 35) else (lodestoneref03_CheckSig.l1 k x0 x3 0)
def lodestoneref03_CheckSig.l1 : Nat → List (S85) → Int → Int → Option (Int)
  | 0, _, _, _ => none
  | k + 1, x0, x3, x4 => if x4 < x3 then (if 0 ≤ x4 then (if x4 < (x0.length : Int) then (if 0 ≤ x3 then (if x3 < (x0.length : Int) then (if ((rd_T85 x0 x4).f0).toList = ((rd_T85 x0 x3).f0).toList then (some 36) else (lodestoneref03_CheckSig.l1 k x0 x3 (wrap64 (x4 + 1)))) else (none)) else (none)) else (none)) else (none)) else (lodestoneref03_CheckSig.l0 k x0 (wrap64 (x3 + 1)))
end
def lodestoneref03_CheckSig.f (k : Nat) (l0 : List (S85)) : Option (Int) := if (l0.length : Int) > 128 then (some 37) else (lodestoneref03_CheckSig.l0 k l0 0)
theorem lodestoneref03_CheckSig.mono_l : ∀ k, (∀ y0 y1, LeO (lodestoneref03_CheckSig.l0 k y0 y1) (lodestoneref03_CheckSig.l0 (k + 1) y0 y1)) ∧ (∀ y0 y1 y2, LeO (lodestoneref03_CheckSig.j1 k y0 y1 y2) (lodestoneref03_CheckSig.j1 (k + 1) y0 y1 y2)) ∧ (∀ y0 y1 y2, LeO (lodestoneref03_CheckSig.j2 k y0 y1 y2) (lodestoneref03_CheckSig.j2 (k + 1) y0 y1 y2)) ∧ (∀ y0 y1 y2, LeO (lodestoneref03_CheckSig.l1 k y0 y1 y2) (lodestoneref03_CheckSig.l1 (k + 1) y0 y1 y2))
  | 0 => ⟨fun _ _ r h => by simp [lodestoneref03_CheckSig.l0] at h, fun _ _ _ r h => by simp [lodestoneref03_CheckSig.j1] at h, fun _ _ _ r h => by simp [lodestoneref03_CheckSig.j2] at h, fun _ _ _ r h => by simp [lodestoneref03_CheckSig.l1] at h⟩
  | k + 1 => by
    obtain ⟨ih0, ih1, ih2, ih3⟩ := lodestoneref03_CheckSig.mono_l k
    refine ⟨?_, ?_, ?_, ?_⟩
    · intro y0 y1
      unfold lodestoneref03_CheckSig.l0
      repeat' first
      | (with_reducible exact ih0 _ _)
      | (with_reducible exact ih1 _ _ _)
      | (with_reducible exact ih2 _ _ _)
      | (with_reducible exact ih3 _ _ _)
      | (with_reducible exact LeO.refl _)
      | (with_reducible exact LeO.none _)
      | (with_reducible refine LeO.ite ?_ ?_)
      | (with_reducible refine LeO.bind ?_ (fun _ => ?_))
      | exact ih0 _ _
      | exact ih1 _ _ _
      | exact ih2 _ _ _
      | exact ih3 _ _ _
      | exact LeO.none _
      | refine LeO.ite ?_ ?_
      | refine LeO.bind ?_ (fun _ => ?_)
    · intro y0 y1 y2
      unfold lodestoneref03_CheckSig.j1
      repeat' first
      | (with_reducible exact ih0 _ _)
      | (with_reducible exact ih1 _ _ _)
      | (with_reducible exact ih2 _ _ _)
      | (with_reducible exact ih3 _ _ _)
      | (with_reducible exact LeO.refl _)
      | (with_reducible exact LeO.none _)
      | (with_reducible refine LeO.ite ?_ ?_)
      | (with_reducible refine LeO.bind ?_ (fun _ => ?_))
      | exact ih0 _ _
      | exact ih1 _ _ _
      | exact ih2 _ _ _
      | exact ih3 _ _ _
      | exact LeO.none _
      | refine LeO.ite ?_ ?_
      | refine LeO.bind ?_ (fun _ => ?_)
    · intro y0 y1 y2
      unfold lodestoneref03_CheckSig.j2
      repeat' first
      | (with_reducible exact ih0 _ _)
      | (with_reducible exact ih1 _ _ _)
      | (with_reducible exact ih2 _ _ _)
      | (with_reducible exact ih3 _ _ _)
      | (with_reducible exact LeO.refl _)
      | (with_reducible exact LeO.none _)
      | (with_reducible refine LeO.ite ?_ ?_)
      | (with_reducible refine LeO.bind ?_ (fun _ => ?_))
      | exact ih0 _ _
      | exact ih1 _ _ _
      | exact ih2 _ _ _
      | exact ih3 _ _ _
      | exact LeO.none _
      | refine LeO.ite ?_ ?_
      | refine LeO.bind ?_ (fun _ => ?_)
    · intro y0 y1 y2
      unfold lodestoneref03_CheckSig.l1
      repeat' first
      | (with_reducible exact ih0 _ _)
      | (with_reducible exact ih1 _ _ _)
      | (with_reducible exact ih2 _ _ _)
      | (with_reducible exact ih3 _ _ _)
      | (with_reducible exact LeO.refl _)
      | (with_reducible exact LeO.none _)
      | (with_reducible refine LeO.ite ?_ ?_)
      | (with_reducible refine LeO.bind ?_ (fun _ => ?_))
      | exact ih0 _ _
      | exact ih1 _ _ _
      | exact ih2 _ _ _
      | exact ih3 _ _ _
      | exact LeO.none _
      | refine LeO.ite ?_ ?_
      | refine LeO.bind ?_ (fun _ => ?_)
theorem lodestoneref03_CheckSig.mono : ∀ a0 k, LeO (lodestoneref03_CheckSig.f k a0) (lodestoneref03_CheckSig.f (k + 1) a0) := by
  intro a0 k
  obtain ⟨ih0, ih1, ih2, ih3⟩ := lodestoneref03_CheckSig.mono_l k
  unfold lodestoneref03_CheckSig.f
  repeat' first
      | (with_reducible exact ih0 _ _)
      | (with_reducible exact ih1 _ _ _)
      | (with_reducible exact ih2 _ _ _)
      | (with_reducible exact ih3 _ _ _)
      | (with_reducible exact LeO.refl _)
      | (with_reducible exact LeO.none _)
      | (with_reducible refine LeO.ite ?_ ?_)
      | (with_reducible refine LeO.bind ?_ (fun _ => ?_))
      | exact ih0 _ _
      | exact ih1 _ _ _
      | exact ih2 _ _ _
      | exact ih3 _ _ _
      | exact LeO.none _
      | refine LeO.ite ?_ ?_
      | refine LeO.bind ?_ (fun _ => ?_)
set_option maxHeartbeats 8000000 in
set_option maxRecDepth 100000 in
theorem lodestoneref03_CheckSig.calls (k : Nat) (A0 : Option Addr) (c0 : Nat) (l0 : List (S85)) (r : Int) (w : World) (hr0 : Kd.C k85 w A0 l0.length l0) (hc0 : l0.length ≤ c0) (h : lodestoneref03_CheckSig.f k l0 = some r) :
    Calls Tryd.prog 47 #[.slice A0 l0.length c0] w fun e w' => e = .returned (.int .i64 r) ∧ Below w.heap.size w w' := by
  have HR0 := Aside0.mk hr0
  have HC0 := Aside0.mk hc0
  clear hr0 hc0
  have HB := Aside0.mk (Below.refl w.heap.size w)
  have H : (if (l0.length : Int) > 128 then (some 37) else (lodestoneref03_CheckSig.l0 k l0 0)) = some r := h
  clear h
  by_cases c2 : (l0.length : Int) > 128
  · rw [if_pos c2] at H
    have c2b0 : decide (128 < (l0.length : Int)) = true := decide_eq_true c2
    have c2b1 : decide (128 < l0.length) = true := decide_eq_true (by omega)
    clear c2
    obtain rfl := Option.some.inj H
    go_enter Tryd.func47, Tryd.ntmps47
    go_wp2
    repeat (go_quiet (fail); try go_wp2)
    go_ret
    exact ⟨by first | rfl | (simp [errW_none, errW_some] <;> rfl) | (simp [*, errW_none, errW_some] <;> rfl), by repeat (first | (with_reducible first | exact HB.out | apply below_alloc | apply pw_below_drewN | apply below_drew1) | exact HB.out)⟩
  · rw [if_neg c2] at H
    have c2b0 : decide (128 < (l0.length : Int)) = false := decide_eq_false c2
    have c2b1 : decide (128 < l0.length) = false := decide_eq_false (by omega)
    clear c2
    have H' := Aside0.mk H
    clear H
    go_enter Tryd.func47, Tryd.ntmps47
    go_wp2
    repeat (go_quiet (fail); try go_wp2)
    go_loopg [3] k (fun kq v3 w' => ∃ (x3_1 : Int), v3 = .int .i64 x3_1 ∧ Aside0 (lodestoneref03_CheckSig.l0 kq l0 x3_1 = some r) ∧ Aside0 (kq ≤ k) ∧ Aside0 (Below w.heap.size w w'))
    case atStart => exact ⟨(0), (by first | rfl | (simp; done) | (simp [*]; done)), H', ⟨Nat.le_refl _⟩, ⟨by repeat (first | (with_reducible first | exact HB.out | apply below_alloc | apply pw_below_drewN | apply below_drew1) | exact HB.out)⟩⟩
    case round =>
      clear H'
      try clear c2
      try clear c2b0
      try clear c2b1
      try clear p2
      obtain ⟨x3_1, rfl, HA, HK1, HB⟩ := hrel
      cases gk with
      | zero => exact absurd HA.out (by simp [lodestoneref03_CheckSig.l0])
      | succ k1 =>
        have H := HA.out
        clear HA
        simp only [lodestoneref03_CheckSig.l0] at H
        by_cases c3 : x3_1 < (l0.length : Int)
        · rw [if_pos c3] at H
          have c3b0 : decide (x3_1 < (l0.length : Int)) = true := decide_eq_true c3
          clear c3
          have HC4 := Aside0.mk H
          clear H
          go_upto_region 6 with (fail)
          repeat (go_quiet (fail); go_upto_region 6 with (fail))
          go_cut [29] (fun v29 wc => ∃ (kq : Nat) (x29_3 : Bool), v29 = .bool x29_3 ∧ Aside0 (lodestoneref03_CheckSig.j1 kq l0 x3_1 x29_3 = some r) ∧ Aside0 (kq ≤ k1) ∧ Aside0 (Below w.heap.size w wc))
          case first =>
            have H := HC4.out
            clear HC4
            by_cases c5 : 0 ≤ x3_1
            · rw [if_pos c5] at H
              have c5b0 : decide (0 ≤ x3_1) = true := decide_eq_true c5
              clear c5
              (first | rw [c5b0] | (simp only [i64_w, i32_w]; rw [c5b0]) | skip)
              replace H := Option.bind_eq_some_iff.mp H
              obtain ⟨t103, A60, H⟩ := H
              replace H : (if t103 = true then (lodestoneref03_CheckSig.j1 k1 l0 x3_1 false) else ((lodestoneref03_Marked.f ((rd_T85 l0 x3_1).f0)).bind fun t105 => (lodestoneref03_CheckSig.j1 k1 l0 x3_1 (!t105)))) = some r := H
              have A6 := Aside0.mk A60
              clear A60
              by_cases c7 : t103 = true
              · subst c7
                have H1 : (lodestoneref03_CheckSig.j1 k1 l0 x3_1 false) = some r := by rw [if_pos rfl] at H; exact H
                clear H
                have H := H1
                clear H1
                have H' := Aside0.mk H
                clear H
                have p102 : 0 ≤ (x3_1 : Int) := of_decide_eq_true (by first | (with_reducible assumption) | assumption)
                have q102 : x3_1 < (l0.length : Int) := of_decide_eq_true (by first | (with_reducible assumption) | assumption)
                obtain ⟨ad102, e102, hx102_0, hx102_1⟩ := at_T85 HR0.out x3_1 p102 q102
                cases e102
                replace hx102_0 := (HB.out.cell (World.block_lt_of_cell? w _ hx102_0)).trans hx102_0
                replace hx102_1 := (HB.out.cell (World.block_lt_of_cell? w _ hx102_1)).trans hx102_1
                replace p102 := eq_true p102
                replace q102 := eq_true q102
                go_wp2_with (first | (go_at_call 71; (with_reducible refine (lodestoneref03_Name.calls ((rd_T85 l0 x3_1).f0) true _ A6.out).mono ?_); rintro e w8 ⟨rfl, hb⟩; have n0_ := Aside0.mk (below_step (by repeat (first | (with_reducible first | exact HB.out | apply below_alloc | apply pw_below_drewN | apply below_drew1) | exact HB.out)) hb); clear HB; have HB := n0_; clear n0_; (try clear hb); (try clear hb2); (try clear hk); (try clear hi)))
                repeat (go_quiet (first | (go_at_call 71; (with_reducible refine (lodestoneref03_Name.calls ((rd_T85 l0 x3_1).f0) true _ A6.out).mono ?_); rintro e w8 ⟨rfl, hb⟩; have n0_ := Aside0.mk (below_step (by repeat (first | (with_reducible first | exact HB.out | apply below_alloc | apply pw_below_drewN | apply below_drew1) | exact HB.out)) hb); clear HB; have HB := n0_; clear n0_; (try clear hb); (try clear hb2); (try clear hk); (try clear hi))); try go_wp2_with (first | (go_at_call 71; (with_reducible refine (lodestoneref03_Name.calls ((rd_T85 l0 x3_1).f0) true _ A6.out).mono ?_); rintro e w8 ⟨rfl, hb⟩; have n0_ := Aside0.mk (below_step (by repeat (first | (with_reducible first | exact HB.out | apply below_alloc | apply pw_below_drewN | apply below_drew1) | exact HB.out)) hb); clear HB; have HB := n0_; clear n0_; (try clear hb); (try clear hb2); (try clear hk); (try clear hi))))
                go_meet
                case rel => exact ⟨_, (false), (by first | rfl | (simp; done) | (simp [*]; done)), H', ⟨by have := HK1.out; first | omega | exact Nat.le_refl _⟩, ⟨by repeat (first | (with_reducible first | exact HB.out | apply below_alloc | apply pw_below_drewN | apply below_drew1) | exact HB.out)⟩⟩
              · replace c7 := Bool.eq_false_iff.mpr c7
                subst c7
                have H1 : ((lodestoneref03_Marked.f ((rd_T85 l0 x3_1).f0)).bind fun t105 => (lodestoneref03_CheckSig.j1 k1 l0 x3_1 (!t105))) = some r := by rw [if_neg (show ¬ (false = true) by decide)] at H; exact H
                clear H
                have H := H1
                clear H1
                replace H := Option.bind_eq_some_iff.mp H
                obtain ⟨t105, A90, H⟩ := H
                replace H : (lodestoneref03_CheckSig.j1 k1 l0 x3_1 (!t105)) = some r := H
                have A9 := Aside0.mk A90
                clear A90
                have H' := Aside0.mk H
                clear H
                have p102 : 0 ≤ (x3_1 : Int) := of_decide_eq_true (by first | (with_reducible assumption) | assumption)
                have q102 : x3_1 < (l0.length : Int) := of_decide_eq_true (by first | (with_reducible assumption) | assumption)
                obtain ⟨ad102, e102, hx102_0, hx102_1⟩ := at_T85 HR0.out x3_1 p102 q102
                cases e102
                replace hx102_0 := (HB.out.cell (World.block_lt_of_cell? w _ hx102_0)).trans hx102_0
                replace hx102_1 := (HB.out.cell (World.block_lt_of_cell? w _ hx102_1)).trans hx102_1
                replace p102 := eq_true p102
                replace q102 := eq_true q102
                go_wp2_with (first | (go_at_call 71; (with_reducible refine (lodestoneref03_Name.calls ((rd_T85 l0 x3_1).f0) false _ A6.out).mono ?_); rintro e w10 ⟨rfl, hb⟩; have n0_ := Aside0.mk (below_step (by repeat (first | (with_reducible first | exact HB.out | apply below_alloc | apply pw_below_drewN | apply below_drew1) | exact HB.out)) hb); clear HB; have HB := n0_; clear n0_; (try clear hb); (try clear hb2); (try clear hk); (try clear hi); have p104 : 0 ≤ (x3_1 : Int) := of_decide_eq_true (by first | (with_reducible assumption) | assumption); have q104 : x3_1 < (l0.length : Int) := of_decide_eq_true (by first | (with_reducible assumption) | assumption); obtain ⟨ad104, e104, hx104_0, hx104_1⟩ := at_T85 HR0.out x3_1 p104 q104; obtain rfl : ad102 = ad104 := (by injection e104); replace hx104_0 := (HB.out.cell (World.block_lt_of_cell? w _ hx104_0)).trans hx104_0; replace hx104_1 := (HB.out.cell (World.block_lt_of_cell? w _ hx104_1)).trans hx104_1; replace p104 := eq_true p104; replace q104 := eq_true q104) | (go_at_call 72; (with_reducible refine (lodestoneref03_Marked.calls ((rd_T85 l0 x3_1).f0) t105 _ A9.out).mono ?_); rintro e w11 ⟨rfl, hb⟩; have n0_ := Aside0.mk (below_step (by repeat (first | (with_reducible first | exact HB.out | apply below_alloc | apply pw_below_drewN | apply below_drew1) | exact HB.out)) hb); clear HB; have HB := n0_; clear n0_; (try clear hb); (try clear hb2); (try clear hk); (try clear hi)))
                repeat (go_quiet (first | (go_at_call 71; (with_reducible refine (lodestoneref03_Name.calls ((rd_T85 l0 x3_1).f0) false _ A6.out).mono ?_); rintro e w10 ⟨rfl, hb⟩; have n0_ := Aside0.mk (below_step (by repeat (first | (with_reducible first | exact HB.out | apply below_alloc | apply pw_below_drewN | apply below_drew1) | exact HB.out)) hb); clear HB; have HB := n0_; clear n0_; (try clear hb); (try clear hb2); (try clear hk); (try clear hi); have p104 : 0 ≤ (x3_1 : Int) := of_decide_eq_true (by first | (with_reducible assumption) | assumption); have q104 : x3_1 < (l0.length : Int) := of_decide_eq_true (by first | (with_reducible assumption) | assumption); obtain ⟨ad104, e104, hx104_0, hx104_1⟩ := at_T85 HR0.out x3_1 p104 q104; obtain rfl : ad102 = ad104 := (by injection e104); replace hx104_0 := (HB.out.cell (World.block_lt_of_cell? w _ hx104_0)).trans hx104_0; replace hx104_1 := (HB.out.cell (World.block_lt_of_cell? w _ hx104_1)).trans hx104_1; replace p104 := eq_true p104; replace q104 := eq_true q104) | (go_at_call 72; (with_reducible refine (lodestoneref03_Marked.calls ((rd_T85 l0 x3_1).f0) t105 _ A9.out).mono ?_); rintro e w11 ⟨rfl, hb⟩; have n0_ := Aside0.mk (below_step (by repeat (first | (with_reducible first | exact HB.out | apply below_alloc | apply pw_below_drewN | apply below_drew1) | exact HB.out)) hb); clear HB; have HB := n0_; clear n0_; (try clear hb); (try clear hb2); (try clear hk); (try clear hi))); try go_wp2_with (first | (go_at_call 71; (with_reducible refine (lodestoneref03_Name.calls ((rd_T85 l0 x3_1).f0) false _ A6.out).mono ?_); rintro e w10 ⟨rfl, hb⟩; have n0_ := Aside0.mk (below_step (by repeat (first | (with_reducible first | exact HB.out | apply below_alloc | apply pw_below_drewN | apply below_drew1) | exact HB.out)) hb); clear HB; have HB := n0_; clear n0_; (try clear hb); (try clear hb2); (try clear hk); (try clear hi); have p104 : 0 ≤ (x3_1 : Int) := of_decide_eq_true (by first | (with_reducible assumption) | assumption); have q104 : x3_1 < (l0.length : Int) := of_decide_eq_true (by first | (with_reducible assumption) | assumption); obtain ⟨ad104, e104, hx104_0, hx104_1⟩ := at_T85 HR0.out x3_1 p104 q104; obtain rfl : ad102 = ad104 := (by injection e104); replace hx104_0 := (HB.out.cell (World.block_lt_of_cell? w _ hx104_0)).trans hx104_0; replace hx104_1 := (HB.out.cell (World.block_lt_of_cell? w _ hx104_1)).trans hx104_1; replace p104 := eq_true p104; replace q104 := eq_true q104) | (go_at_call 72; (with_reducible refine (lodestoneref03_Marked.calls ((rd_T85 l0 x3_1).f0) t105 _ A9.out).mono ?_); rintro e w11 ⟨rfl, hb⟩; have n0_ := Aside0.mk (below_step (by repeat (first | (with_reducible first | exact HB.out | apply below_alloc | apply pw_below_drewN | apply below_drew1) | exact HB.out)) hb); clear HB; have HB := n0_; clear n0_; (try clear hb); (try clear hb2); (try clear hk); (try clear hi))))
                go_meet
                case rel => exact ⟨_, (!t105), (by first | rfl | (simp; done) | (simp [*]; done)), H', ⟨by have := HK1.out; first | omega | exact Nat.le_refl _⟩, ⟨by repeat (first | (with_reducible first | exact HB.out | apply below_alloc | apply pw_below_drewN | apply below_drew1) | exact HB.out)⟩⟩
            · rw [if_neg c5] at H
              exact absurd H (by simp)
          case rest =>
            clear HC4
            try clear p1
            try clear q1
            try clear hx1
            try clear c2
            try clear c2b0
            try clear c2b1
            try clear p2
            try clear c3
            try clear c3b0
            try clear c4
            try clear c5
            try clear c5b0
            try clear c7
            try clear p10
            try clear q10
            try clear hx10
            try clear hx102_0
            try clear hx102_1
            try clear hx104_0
            try clear hx104_1
            try clear p102
            try clear p104
            try clear p2
            try clear q102
            try clear q104
            obtain ⟨kq, x29_3, rfl, HA, HJ3, HB⟩ := hcut
            cases kq with
            | zero => exact absurd HA.out (by simp [lodestoneref03_CheckSig.j1])
            | succ kj3 =>
              have H := HA.out
              clear HA
              simp only [lodestoneref03_CheckSig.j1] at H
              by_cases c12 : x29_3 = true
              · subst c12
                have H1 : (some 34) = some r := by rw [if_pos rfl] at H; exact H
                clear H
                have H := H1
                clear H1
                obtain rfl := Option.some.inj H
                go_wp2
                repeat (go_quiet (fail); try go_wp2)
                go_ret
                exact ⟨by first | rfl | (simp [errW_none, errW_some] <;> rfl) | (simp [*, errW_none, errW_some] <;> rfl), by repeat (first | (with_reducible first | exact HB.out | apply below_alloc | apply pw_below_drewN | apply below_drew1) | exact HB.out)⟩
              · replace c12 := Bool.eq_false_iff.mpr c12
                subst c12
                have H1 : (if 0 ≤ x3_1 then (if x3_1 < (l0.length : Int) then (if ((rd_T85 l0 x3_1).f1) < 0 then (lodestoneref03_CheckSig.j2 kj3 l0 x3_1 true) else (lodestoneref03_CheckSig.j2 kj3 l0 x3_1 (decide (((rd_T85 l0 x3_1).f1) > 8)))) else (none)) else (none)) = some r := by rw [if_neg (show ¬ (false = true) by decide)] at H; exact H
                clear H
                have H := H1
                clear H1
                have HC13 := Aside0.mk H
                clear H
                go_upto_region 8 with (fail)
                repeat (go_quiet (fail); go_upto_region 8 with (fail))
                go_cut [43] (fun v43 wc => ∃ (kq : Nat) (x43_12 : Bool), v43 = .bool x43_12 ∧ Aside0 (lodestoneref03_CheckSig.j2 kq l0 x3_1 x43_12 = some r) ∧ Aside0 (kq ≤ kj3) ∧ Aside0 (Below w.heap.size w wc))
                case first =>
                  have H := HC13.out
                  clear HC13
                  by_cases c14 : 0 ≤ x3_1
                  · rw [if_pos c14] at H
                    have c14b0 : decide (0 ≤ x3_1) = true := decide_eq_true c14
                    clear c14
                    (first | rw [c14b0] | (simp only [i64_w, i32_w]; rw [c14b0]) | skip)
                    by_cases c15 : x3_1 < (l0.length : Int)
                    · rw [if_pos c15] at H
                      have c15b0 : decide (x3_1 < (l0.length : Int)) = true := decide_eq_true c15
                      clear c15
                      by_cases c16 : ((rd_T85 l0 x3_1).f1) < 0
                      · rw [if_pos c16] at H
                        have c16b0 : decide (((rd_T85 l0 x3_1).f1) < 0) = true := decide_eq_true c16
                        clear c16
                        have H' := Aside0.mk H
                        clear H
                        have p106 : 0 ≤ (x3_1 : Int) := of_decide_eq_true (by first | (with_reducible assumption) | assumption)
                        have q106 : x3_1 < (l0.length : Int) := of_decide_eq_true (by first | (with_reducible assumption) | assumption)
                        obtain ⟨ad106, e106, hx106_0, hx106_1⟩ := at_T85 HR0.out x3_1 p106 q106
                        cases e106
                        replace hx106_0 := (HB.out.cell (World.block_lt_of_cell? w _ hx106_0)).trans hx106_0
                        replace hx106_1 := (HB.out.cell (World.block_lt_of_cell? w _ hx106_1)).trans hx106_1
                        replace p106 := eq_true p106
                        replace q106 := eq_true q106
                        go_wp2
                        repeat (go_quiet (fail); try go_wp2)
                        go_meet
                        case rel => exact ⟨_, (true), (by first | rfl | (simp; done) | (simp [*]; done)), H', ⟨by have := HK1.out; have := HJ3.out; first | omega | exact Nat.le_refl _⟩, ⟨by repeat (first | (with_reducible first | exact HB.out | apply below_alloc | apply pw_below_drewN | apply below_drew1) | exact HB.out)⟩⟩
                      · rw [if_neg c16] at H
                        have c16b0 : decide (((rd_T85 l0 x3_1).f1) < 0) = false := decide_eq_false c16
                        clear c16
                        have H' := Aside0.mk H
                        clear H
                        have p106 : 0 ≤ (x3_1 : Int) := of_decide_eq_true (by first | (with_reducible assumption) | assumption)
                        have q106 : x3_1 < (l0.length : Int) := of_decide_eq_true (by first | (with_reducible assumption) | assumption)
                        obtain ⟨ad106, e106, hx106_0, hx106_1⟩ := at_T85 HR0.out x3_1 p106 q106
                        cases e106
                        replace hx106_0 := (HB.out.cell (World.block_lt_of_cell? w _ hx106_0)).trans hx106_0
                        replace hx106_1 := (HB.out.cell (World.block_lt_of_cell? w _ hx106_1)).trans hx106_1
                        replace p106 := eq_true p106
                        replace q106 := eq_true q106
                        have p107 : 0 ≤ (x3_1 : Int) := of_decide_eq_true (by first | (with_reducible assumption) | assumption)
                        have q107 : x3_1 < (l0.length : Int) := of_decide_eq_true (by first | (with_reducible assumption) | assumption)
                        obtain ⟨ad107, e107, hx107_0, hx107_1⟩ := at_T85 HR0.out x3_1 p107 q107
                        obtain rfl : ad106 = ad107 := (by injection e107)
                        replace hx107_0 := (HB.out.cell (World.block_lt_of_cell? w _ hx107_0)).trans hx107_0
                        replace hx107_1 := (HB.out.cell (World.block_lt_of_cell? w _ hx107_1)).trans hx107_1
                        replace p107 := eq_true p107
                        replace q107 := eq_true q107
                        go_wp2
                        repeat (go_quiet (fail); try go_wp2)
                        go_meet
                        case rel => exact ⟨_, (decide (((rd_T85 l0 x3_1).f1) > 8)), (by first | rfl | (simp; done) | (simp [*]; done)), H', ⟨by have := HK1.out; have := HJ3.out; first | omega | exact Nat.le_refl _⟩, ⟨by repeat (first | (with_reducible first | exact HB.out | apply below_alloc | apply pw_below_drewN | apply below_drew1) | exact HB.out)⟩⟩
                    · rw [if_neg c15] at H
                      exact absurd H (by simp)
                  · rw [if_neg c14] at H
                    exact absurd H (by simp)
                case rest =>
                  clear HC13
                  try clear c1
                  try clear p1
                  try clear q1
                  try clear hx1
                  try clear c2
                  try clear c2b0
                  try clear c2b1
                  try clear p2
                  try clear c3
                  try clear c3b0
                  try clear c4
                  try clear c5
                  try clear c5b0
                  try clear c7
                  try clear p10
                  try clear q10
                  try clear hx10
                  try clear c12
                  try clear c14
                  try clear c14b0
                  try clear c15
                  try clear c15b0
                  try clear c16
                  try clear c16b0
                  try clear hx102_0
                  try clear hx102_1
                  try clear hx104_0
                  try clear hx104_1
                  try clear hx106_0
                  try clear hx106_1
                  try clear hx107_0
                  try clear hx107_1
                  try clear p1
                  try clear p10
                  try clear p102
                  try clear p104
                  try clear p106
                  try clear p107
                  try clear p2
                  try clear q1
                  try clear q10
                  try clear q102
                  try clear q104
                  try clear q106
                  try clear q107
                  obtain ⟨kq, x43_12, rfl, HA, HJ12, HB⟩ := hcut
                  cases kq with
                  | zero => exact absurd HA.out (by simp [lodestoneref03_CheckSig.j2])
                  | succ kj12 =>
                    have H := HA.out
                    clear HA
                    simp only [lodestoneref03_CheckSig.j2] at H
                    by_cases c17 : x43_12 = true
                    · subst c17
                      have H1 : (some 35) = some r := by rw [if_pos rfl] at H; exact H
                      clear H
                      have H := H1
                      clear H1
                      obtain rfl := Option.some.inj H
                      go_wp2
                      repeat (go_quiet (fail); try go_wp2)
                      go_ret
                      exact ⟨by first | rfl | (simp [errW_none, errW_some] <;> rfl) | (simp [*, errW_none, errW_some] <;> rfl), by repeat (first | (with_reducible first | exact HB.out | apply below_alloc | apply pw_below_drewN | apply below_drew1) | exact HB.out)⟩
                    · replace c17 := Bool.eq_false_iff.mpr c17
                      subst c17
                      have H1 : (lodestoneref03_CheckSig.l1 kj12 l0 x3_1 0) = some r := by rw [if_neg (show ¬ (false = true) by decide)] at H; exact H
                      clear H
                      have H := H1
                      clear H1
                      have H' := Aside0.mk H
                      clear H
                      go_wp2
                      repeat (go_quiet (fail); try go_wp2)
                      go_loopg [4] kj12 (fun kq v4 w' => ∃ (x4_4 : Int), v4 = .int .i64 x4_4 ∧ Aside0 (lodestoneref03_CheckSig.l1 kq l0 x3_1 x4_4 = some r) ∧ Aside0 (kq ≤ kj12) ∧ Aside0 (Below w.heap.size w w'))
                      case atStart => exact ⟨(0), (by first | rfl | (simp; done) | (simp [*]; done)), H', ⟨Nat.le_refl _⟩, ⟨by repeat (first | (with_reducible first | exact HB.out | apply below_alloc | apply pw_below_drewN | apply below_drew1) | exact HB.out)⟩⟩
                      case round =>
                        clear H'
                        try clear c1
                        try clear p1
                        try clear q1
                        try clear hx1
                        try clear c2
                        try clear c2b0
                        try clear c2b1
                        try clear p2
                        try clear c3
                        try clear c3b0
                        try clear c4
                        try clear c5
                        try clear c5b0
                        try clear c7
                        try clear p10
                        try clear q10
                        try clear hx10
                        try clear c12
                        try clear c14
                        try clear c14b0
                        try clear c15
                        try clear c15b0
                        try clear c16
                        try clear c16b0
                        try clear c17
                        try clear hx102_0
                        try clear hx102_1
                        try clear hx104_0
                        try clear hx104_1
                        try clear hx106_0
                        try clear hx106_1
                        try clear hx107_0
                        try clear hx107_1
                        try clear p1
                        try clear p10
                        try clear p102
                        try clear p104
                        try clear p106
                        try clear p107
                        try clear p2
                        try clear q1
                        try clear q10
                        try clear q102
                        try clear q104
                        try clear q106
                        try clear q107
                        obtain ⟨x4_4, rfl, HA, HK4, HB⟩ := hrel
                        cases gk with
                        | zero => exact absurd HA.out (by simp [lodestoneref03_CheckSig.l1])
                        | succ k4 =>
                          have H := HA.out
                          clear HA
                          simp only [lodestoneref03_CheckSig.l1] at H
                          by_cases c18 : x4_4 < x3_1
                          · rw [if_pos c18] at H
                            have c18b0 : decide (x4_4 < x3_1) = true := decide_eq_true c18
                            clear c18
                            by_cases c19 : 0 ≤ x4_4
                            · rw [if_pos c19] at H
                              have c19b0 : decide (0 ≤ x4_4) = true := decide_eq_true c19
                              clear c19
                              by_cases c20 : x4_4 < (l0.length : Int)
                              · rw [if_pos c20] at H
                                have c20b0 : decide (x4_4 < (l0.length : Int)) = true := decide_eq_true c20
                                clear c20
                                by_cases c21 : 0 ≤ x3_1
                                · rw [if_pos c21] at H
                                  have c21b0 : decide (0 ≤ x3_1) = true := decide_eq_true c21
                                  clear c21
                                  by_cases c22 : x3_1 < (l0.length : Int)
                                  · rw [if_pos c22] at H
                                    have c22b0 : decide (x3_1 < (l0.length : Int)) = true := decide_eq_true c22
                                    clear c22
                                    by_cases c23 : ((rd_T85 l0 x4_4).f0).toList = ((rd_T85 l0 x3_1).f0).toList
                                    · rw [if_pos c23] at H
                                      have c23b0 : (((rd_T85 l0 x4_4).f0).toList == ((rd_T85 l0 x3_1).f0).toList) = true := beq_iff_eq.mpr c23
                                      have c23b1 : (((rd_T85 l0 x4_4).f0).toList != ((rd_T85 l0 x3_1).f0).toList) = false := bne_eq_false_iff_eq.mpr c23
                                      clear c23
                                      obtain rfl := Option.some.inj H
                                      have p108 : 0 ≤ (x4_4 : Int) := of_decide_eq_true (by first | (with_reducible assumption) | assumption)
                                      have q108 : x4_4 < (l0.length : Int) := of_decide_eq_true (by first | (with_reducible assumption) | assumption)
                                      obtain ⟨ad108, e108, hx108_0, hx108_1⟩ := at_T85 HR0.out x4_4 p108 q108
                                      cases e108
                                      replace hx108_0 := (HB.out.cell (World.block_lt_of_cell? w _ hx108_0)).trans hx108_0
                                      replace hx108_1 := (HB.out.cell (World.block_lt_of_cell? w _ hx108_1)).trans hx108_1
                                      replace p108 := eq_true p108
                                      replace q108 := eq_true q108
                                      have p109 : 0 ≤ (x3_1 : Int) := of_decide_eq_true (by first | (with_reducible assumption) | assumption)
                                      have q109 : x3_1 < (l0.length : Int) := of_decide_eq_true (by first | (with_reducible assumption) | assumption)
                                      obtain ⟨ad109, e109, hx109_0, hx109_1⟩ := at_T85 HR0.out x3_1 p109 q109
                                      obtain rfl : ad108 = ad109 := (by injection e109)
                                      replace hx109_0 := (HB.out.cell (World.block_lt_of_cell? w _ hx109_0)).trans hx109_0
                                      replace hx109_1 := (HB.out.cell (World.block_lt_of_cell? w _ hx109_1)).trans hx109_1
                                      replace p109 := eq_true p109
                                      replace q109 := eq_true q109
                                      go_wp2
                                      repeat (go_quiet (fail); try go_wp2)
                                      go_ret
                                      exact ⟨by first | rfl | (simp [errW_none, errW_some] <;> rfl) | (simp [*, errW_none, errW_some] <;> rfl), by repeat (first | (with_reducible first | exact HB.out | apply below_alloc | apply pw_below_drewN | apply below_drew1) | exact HB.out)⟩
                                    · rw [if_neg c23] at H
                                      have c23b0 : (((rd_T85 l0 x4_4).f0).toList == ((rd_T85 l0 x3_1).f0).toList) = false := beq_eq_false_iff_ne.mpr c23
                                      have c23b1 : (((rd_T85 l0 x4_4).f0).toList != ((rd_T85 l0 x3_1).f0).toList) = true := bne_iff_ne.mpr c23
                                      have H' := Aside0.mk H
                                      clear H
                                      have p108 : 0 ≤ (x4_4 : Int) := of_decide_eq_true (by first | (with_reducible assumption) | assumption)
                                      have q108 : x4_4 < (l0.length : Int) := of_decide_eq_true (by first | (with_reducible assumption) | assumption)
                                      obtain ⟨ad108, e108, hx108_0, hx108_1⟩ := at_T85 HR0.out x4_4 p108 q108
                                      cases e108
                                      replace hx108_0 := (HB.out.cell (World.block_lt_of_cell? w _ hx108_0)).trans hx108_0
                                      replace hx108_1 := (HB.out.cell (World.block_lt_of_cell? w _ hx108_1)).trans hx108_1
                                      replace p108 := eq_true p108
                                      replace q108 := eq_true q108
                                      have p109 : 0 ≤ (x3_1 : Int) := of_decide_eq_true (by first | (with_reducible assumption) | assumption)
                                      have q109 : x3_1 < (l0.length : Int) := of_decide_eq_true (by first | (with_reducible assumption) | assumption)
                                      obtain ⟨ad109, e109, hx109_0, hx109_1⟩ := at_T85 HR0.out x3_1 p109 q109
                                      obtain rfl : ad108 = ad109 := (by injection e109)
                                      replace hx109_0 := (HB.out.cell (World.block_lt_of_cell? w _ hx109_0)).trans hx109_0
                                      replace hx109_1 := (HB.out.cell (World.block_lt_of_cell? w _ hx109_1)).trans hx109_1
                                      replace p109 := eq_true p109
                                      replace q109 := eq_true q109
                                      go_wp2
                                      repeat (go_quiet (fail); try go_wp2)
                                      go_roundg k4
                                      case measure => have := HK1.out; have := HJ3.out; have := HJ12.out; have := HK4.out; omega
                                      case rel => exact ⟨(wrap64 (x4_4 + 1)), (by first | rfl | (simp; done) | (simp [*]; done)), H', ⟨by have := HK1.out; have := HJ3.out; have := HJ12.out; have := HK4.out; omega⟩, ⟨by repeat (first | (with_reducible first | exact HB.out | apply below_alloc | apply pw_below_drewN | apply below_drew1) | exact HB.out)⟩⟩
                                  · rw [if_neg c22] at H
                                    exact absurd H (by simp)
                                · rw [if_neg c21] at H
                                  exact absurd H (by simp)
                              · rw [if_neg c20] at H
                                exact absurd H (by simp)
                            · rw [if_neg c19] at H
                              exact absurd H (by simp)
                          · rw [if_neg c18] at H
                            have c18b0 : decide (x4_4 < x3_1) = false := decide_eq_false c18
                            clear c18
                            have H' := Aside0.mk H
                            clear H
                            go_wp2
                            repeat (go_quiet (fail); try go_wp2)
                            go_roundg k4
                            case measure => have := HK1.out; have := HJ3.out; have := HJ12.out; have := HK4.out; omega
                            case rel => exact ⟨(wrap64 (x3_1 + 1)), (by first | rfl | (simp; done) | (simp [*]; done)), H', ⟨by have := HK1.out; have := HJ3.out; have := HJ12.out; have := HK4.out; omega⟩, ⟨by repeat (first | (with_reducible first | exact HB.out | apply below_alloc | apply pw_below_drewN | apply below_drew1) | exact HB.out)⟩⟩
        · rw [if_neg c3] at H
          have c3b0 : decide (x3_1 < (l0.length : Int)) = false := decide_eq_false c3
          clear c3
          obtain rfl := Option.some.inj H
          go_wp2
          repeat (go_quiet (fail); try go_wp2)
          go_ret
          exact ⟨by first | rfl | (simp [errW_none, errW_some] <;> rfl) | (simp [*, errW_none, errW_some] <;> rfl), by repeat (first | (with_reducible first | exact HB.out | apply below_alloc | apply pw_below_drewN | apply below_drew1) | exact HB.out)⟩

/-! ### lodestoneref03_Check: function 22 -/
def lodestoneref03_Check.f (k : Nat) (l0 : List (S85)) (l1 : List Int) : Option (Int) := (lodestoneref03_CheckSig.f k l0).bind fun t115 => (if t115 = 0 then ((lodestoneref03_Term.f k l0 l1).bind fun t116 => (some t116)) else (some t115))
theorem lodestoneref03_Check.mono : ∀ a0 a1 k, LeO (lodestoneref03_Check.f k a0 a1) (lodestoneref03_Check.f (k + 1) a0 a1) := by
  intro a0 a1 k
  unfold lodestoneref03_Check.f
  repeat' first
      | (with_reducible exact lodestoneref03_CheckSig.mono _ _)
      | (with_reducible exact lodestoneref03_Term.mono _ _ _)
      | (with_reducible exact LeO.refl _)
      | (with_reducible exact LeO.none _)
      | (with_reducible refine LeO.ite ?_ ?_)
      | (with_reducible refine LeO.bind ?_ (fun _ => ?_))
      | exact lodestoneref03_CheckSig.mono _ _
      | exact lodestoneref03_Term.mono _ _ _
      | exact LeO.none _
      | refine LeO.ite ?_ ?_
      | refine LeO.bind ?_ (fun _ => ?_)
set_option maxHeartbeats 8000000 in
set_option maxRecDepth 100000 in
theorem lodestoneref03_Check.calls (k : Nat) (A0 : Option Addr) (c0 : Nat) (l0 : List (S85)) (A1 : Option Addr) (c1 : Nat) (l1 : List Int) (r : Int) (w : World) (hr0 : Kd.C k85 w A0 l0.length l0) (hc0 : l0.length ≤ c0) (hr1 : Kd.C (Kd.int .i64) w A1 l1.length l1) (hc1 : l1.length ≤ c1) (h : lodestoneref03_Check.f k l0 l1 = some r) :
    Calls Tryd.prog 22 #[.slice A0 l0.length c0, .slice A1 l1.length c1] w fun e w' => e = .returned (.int .i64 r) ∧ Below w.heap.size w w' := by
  have HR0 := Aside0.mk hr0
  have HC0 := Aside0.mk hc0
  clear hr0 hc0
  have HR1 := Aside0.mk hr1
  have HC1 := Aside0.mk hc1
  clear hr1 hc1
  have HB := Aside0.mk (Below.refl w.heap.size w)
  have H : ((lodestoneref03_CheckSig.f k l0).bind fun t115 => (if t115 = 0 then ((lodestoneref03_Term.f k l0 l1).bind fun t116 => (some t116)) else (some t115))) = some r := h
  clear h
  replace H := Option.bind_eq_some_iff.mp H
  obtain ⟨t115, A30, H⟩ := H
  replace H : (if t115 = 0 then ((lodestoneref03_Term.f k l0 l1).bind fun t116 => (some t116)) else (some t115)) = some r := H
  have A3 := Aside0.mk A30
  clear A30
  by_cases c4 : t115 = 0
  · rw [if_pos c4] at H
    have c4b0 : (t115 == 0) = true := beq_iff_eq.mpr c4
    have c4b1 : (t115 != 0) = false := bne_eq_false_iff_eq.mpr c4
    clear c4
    replace H := Option.bind_eq_some_iff.mp H
    obtain ⟨t116, A50, H⟩ := H
    replace H : (some t116) = some r := H
    have A5 := Aside0.mk A50
    clear A50
    obtain rfl := Option.some.inj H
    go_enter Tryd.func22, Tryd.ntmps22
    go_wp2_with (first | ((with_reducible refine gate_callee (f := 47) rfl ?_); refine goesL_ (some 7) rfl rfl Tryd.func47 (by kernel_rfl) rfl #[.slice A0 l0.length c0] rfl (by (try simp only [List.map_toArray, List.map_cons, List.map_nil]); first | done | rfl | (simp only [List.length_drop, List.length_take]; rfl)) ?_; (with_reducible refine (lodestoneref03_CheckSig.calls k _ _ l0 t115 _ ?side1 ?side2 A3.out).mono ?_); (case side1 => repeat (first | exact HR0.out | (with_reducible refine Kd.C_alloc ?_ _) | (with_reducible refine Kd.C_drewN ?_ _) | (with_reducible refine Kd.C_drew ?_))); (case side2 => exact HC0.out); rintro e w6 ⟨rfl, hb⟩; refine ⟨_, rfl, ?_⟩; have n0_ := Aside0.mk (below_step (by repeat (first | (with_reducible first | exact HB.out | apply below_alloc | apply pw_below_drewN | apply below_drew1) | exact HB.out)) hb); clear HB; have HB := n0_; clear n0_; (try clear hb); (try clear hb2); (try clear hk); (try clear hi)) | ((with_reducible refine gate_callee (f := 48) rfl ?_); refine goesL_ (some 13) rfl rfl Tryd.func48 (by kernel_rfl) rfl #[.slice A0 l0.length c0, .slice A1 l1.length c1] rfl (by (try simp only [List.map_toArray, List.map_cons, List.map_nil]); first | done | rfl | (simp only [List.length_drop, List.length_take]; rfl)) ?_; (with_reducible refine (lodestoneref03_Term.calls k _ _ l0 _ _ l1 t116 _ ?side1 ?side2 ?side3 ?side4 A5.out).mono ?_); (case side1 => repeat (first | exact (Kd.C_below HR0.out HB.out) | (with_reducible refine Kd.C_alloc ?_ _) | (with_reducible refine Kd.C_drewN ?_ _) | (with_reducible refine Kd.C_drew ?_))); (case side2 => exact HC0.out); (case side3 => repeat (first | exact (Kd.C_below HR1.out HB.out) | (with_reducible refine Kd.C_alloc ?_ _) | (with_reducible refine Kd.C_drewN ?_ _) | (with_reducible refine Kd.C_drew ?_))); (case side4 => exact HC1.out); rintro e w' ⟨rfl, ⟨nd, rfl⟩⟩; refine ⟨_, rfl, ?_⟩))
    go_ret
    exact ⟨by first | rfl | (simp [errW_none, errW_some] <;> rfl) | (simp [*, errW_none, errW_some] <;> rfl), by repeat (first | (with_reducible first | exact HB.out | apply below_alloc | apply pw_below_drewN | apply below_drew1) | exact HB.out)⟩
  · rw [if_neg c4] at H
    have c4b0 : (t115 == 0) = false := beq_eq_false_iff_ne.mpr c4
    have c4b1 : (t115 != 0) = true := bne_iff_ne.mpr c4
    obtain rfl := Option.some.inj H
    go_enter Tryd.func22, Tryd.ntmps22
    go_wp2_with (first | ((with_reducible refine gate_callee (f := 47) rfl ?_); refine goesL_ (some 7) rfl rfl Tryd.func47 (by kernel_rfl) rfl #[.slice A0 l0.length c0] rfl (by (try simp only [List.map_toArray, List.map_cons, List.map_nil]); first | done | rfl | (simp only [List.length_drop, List.length_take]; rfl)) ?_; (with_reducible refine (lodestoneref03_CheckSig.calls k _ _ l0 t115 _ ?side1 ?side2 A3.out).mono ?_); (case side1 => repeat (first | exact HR0.out | (with_reducible refine Kd.C_alloc ?_ _) | (with_reducible refine Kd.C_drewN ?_ _) | (with_reducible refine Kd.C_drew ?_))); (case side2 => exact HC0.out); rintro e w7 ⟨rfl, hb⟩; refine ⟨_, rfl, ?_⟩; have n0_ := Aside0.mk (below_step (by repeat (first | (with_reducible first | exact HB.out | apply below_alloc | apply pw_below_drewN | apply below_drew1) | exact HB.out)) hb); clear HB; have HB := n0_; clear n0_; (try clear hb); (try clear hb2); (try clear hk); (try clear hi)))
    go_ret
    exact ⟨by first | rfl | (simp [errW_none, errW_some] <;> rfl) | (simp [*, errW_none, errW_some] <;> rfl), by repeat (first | (with_reducible first | exact HB.out | apply below_alloc | apply pw_below_drewN | apply below_drew1) | exact HB.out)⟩

end
end Go.Proofs.YtjckddaaeiffpaaDoor.Z
