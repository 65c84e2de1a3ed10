-- Printed by drv.py (wip), which runs the kit's print over functions some of which are given. Lean checks it.
import Derived.Test.YtjckddaaeiffpaaDoorZ0
import Derived.Test.YtjckddaaeiffpaaDoorExtCheckSig
import Derived.Test.YtjckddaaeiffpaaDoorExtName
import Derived.Test.YtjckddaaeiffpaaDoorExtTree
namespace Go.Proofs.YtjckddaaeiffpaaDoor.Z
open Go.RowKit Go.Proofs.YtjckddaaeiffpaaDoorW.PrintWords Go.Proofs.YtjckddaaeiffpaaDoorW.PrintLast Go.Proofs.YtjckddaaeiffpaaDoorW.PrintMore
attribute [local go_sem] max2_int min2_int max_two min_two max_three min_three max_four min_four   -- for this text's walks alone
set_option linter.unusedVariables false
set_option linter.unusedSimpArgs false

noncomputable section
/-! ### subst_Check: function 49 -/
mutual
def subst_Check.l0 : Nat → List (S85) → List (S30) → List (S30) → Int → Int → Option (Int)
  | 0, _, _, _, _, _ => none
  | k + 1, x0, x1, x14, x15, x16 => if x16 < x15 then (if 0 ≤ x16 then (if x16 < (x14.length : Int) then (if ((rd_T30 x14 x16).f0) < 0 then (subst_Check.j1 k x0 x1 x16 x14 x15 x16 true ((rd_T30 x14 x16).f0) ((rd_T30 x14 x16).f1)) else (subst_Check.j1 k x0 x1 x16 x14 x15 x16 (decide (((rd_T30 x14 x16).f0) ≥ 1048576)) ((rd_T30 x14 x16).f0) ((rd_T30 x14 x16).f1))) else (none)) else (none)) else (some 0)
def subst_Check.j1 : Nat → List (S85) → List (S30) → Int → List (S30) → Int → Int → Bool → Int → List Int → Option (Int)
  | 0, _, _, _, _, _, _, _, _, _ => none
  | k + 1, x0, x1, x6, x14, x15, x16, x21, x397000, x397001 => if x21 = true then (some 40) else (if x6 > 0 then (if 0 ≤ (wrap64 (x6 - 1)) then (if (wrap64 (x6 - 1)) < (x1.length : Int) then (subst_Check.j2 k x0 x1 x14 x15 x16 (decide (x397000 ≤ ((rd_T30 x1 (wrap64 (x6 - 1))).f0))) x397000 x397001) else (none)) else (none)) else (subst_Check.j2 k x0 x1 x14 x15 x16 false x397000 x397001))
def subst_Check.j2 : Nat → List (S85) → List (S30) → List (S30) → Int → Int → Bool → Int → List Int → Option (Int)
  | 0, _, _, _, _, _, _, _, _ => none
  | k + 1, x0, x1, x14, x15, x16, x30, x397000, x397001 => if x30 = true then (some 41) else ((term_Check.f x0 x397001).bind fun t398 => (if t398 = 0 then (subst_Check.l0 k x0 x1 x14 x15 (wrap64 (x16 + 1))) else (some t398)))
end
def subst_Check.f (k : Nat) (l0 : List (S85)) (l1 : List (S30)) : Option (Int) := (term_CheckSig.f l0).bind fun t394 => (if t394 = 0 then (subst_Check.l0 k l0 l1 l1 (l1.length : Int) 0) else (some t394))
theorem subst_Check.mono_l : ∀ k, (∀ y0 y1 y2 y3 y4, LeO (subst_Check.l0 k y0 y1 y2 y3 y4) (subst_Check.l0 (k + 1) y0 y1 y2 y3 y4)) ∧ (∀ y0 y1 y2 y3 y4 y5 y6 y7 y8, LeO (subst_Check.j1 k y0 y1 y2 y3 y4 y5 y6 y7 y8) (subst_Check.j1 (k + 1) y0 y1 y2 y3 y4 y5 y6 y7 y8)) ∧ (∀ y0 y1 y2 y3 y4 y5 y6 y7, LeO (subst_Check.j2 k y0 y1 y2 y3 y4 y5 y6 y7) (subst_Check.j2 (k + 1) y0 y1 y2 y3 y4 y5 y6 y7))
  | 0 => ⟨fun _ _ _ _ _ r h => by simp [subst_Check.l0] at h, fun _ _ _ _ _ _ _ _ _ r h => by simp [subst_Check.j1] at h, fun _ _ _ _ _ _ _ _ r h => by simp [subst_Check.j2] at h⟩
  | k + 1 => by
    obtain ⟨ih0, ih1, ih2⟩ := subst_Check.mono_l k
    refine ⟨?_, ?_, ?_⟩
    · intro y0 y1 y2 y3 y4
      unfold subst_Check.l0
      repeat' first
      | (with_reducible exact ih0 _ _ _ _ _)
      | (with_reducible exact ih1 _ _ _ _ _ _ _ _ _)
      | (with_reducible exact ih2 _ _ _ _ _ _ _ _)
      | (with_reducible exact LeO.refl _)
      | (with_reducible exact LeO.none _)
      | (with_reducible refine LeO.ite ?_ ?_)
      | (with_reducible refine LeO.bind ?_ (fun _ => ?_))
      | exact ih0 _ _ _ _ _
      | exact ih1 _ _ _ _ _ _ _ _ _
      | exact ih2 _ _ _ _ _ _ _ _
      | exact LeO.none _
      | refine LeO.ite ?_ ?_
      | refine LeO.bind ?_ (fun _ => ?_)
    · intro y0 y1 y2 y3 y4 y5 y6 y7 y8
      unfold subst_Check.j1
      repeat' first
      | (with_reducible exact ih0 _ _ _ _ _)
      | (with_reducible exact ih1 _ _ _ _ _ _ _ _ _)
      | (with_reducible exact ih2 _ _ _ _ _ _ _ _)
      | (with_reducible exact LeO.refl _)
      | (with_reducible exact LeO.none _)
      | (with_reducible refine LeO.ite ?_ ?_)
      | (with_reducible refine LeO.bind ?_ (fun _ => ?_))
      | exact ih0 _ _ _ _ _
      | exact ih1 _ _ _ _ _ _ _ _ _
      | exact ih2 _ _ _ _ _ _ _ _
      | exact LeO.none _
      | refine LeO.ite ?_ ?_
      | refine LeO.bind ?_ (fun _ => ?_)
    · intro y0 y1 y2 y3 y4 y5 y6 y7
      unfold subst_Check.j2
      repeat' first
      | (with_reducible exact ih0 _ _ _ _ _)
      | (with_reducible exact ih1 _ _ _ _ _ _ _ _ _)
      | (with_reducible exact ih2 _ _ _ _ _ _ _ _)
      | (with_reducible exact LeO.refl _)
      | (with_reducible exact LeO.none _)
      | (with_reducible refine LeO.ite ?_ ?_)
      | (with_reducible refine LeO.bind ?_ (fun _ => ?_))
      | exact ih0 _ _ _ _ _
      | exact ih1 _ _ _ _ _ _ _ _ _
      | exact ih2 _ _ _ _ _ _ _ _
      | exact LeO.none _
      | refine LeO.ite ?_ ?_
      | refine LeO.bind ?_ (fun _ => ?_)
theorem subst_Check.mono : ∀ a0 a1 k, LeO (subst_Check.f k a0 a1) (subst_Check.f (k + 1) a0 a1) := by
  intro a0 a1 k
  obtain ⟨ih0, ih1, ih2⟩ := subst_Check.mono_l k
  unfold subst_Check.f
  repeat' first
      | (with_reducible exact ih0 _ _ _ _ _)
      | (with_reducible exact ih1 _ _ _ _ _ _ _ _ _)
      | (with_reducible exact ih2 _ _ _ _ _ _ _ _)
      | (with_reducible exact LeO.refl _)
      | (with_reducible exact LeO.none _)
      | (with_reducible refine LeO.ite ?_ ?_)
      | (with_reducible refine LeO.bind ?_ (fun _ => ?_))
      | exact ih0 _ _ _ _ _
      | exact ih1 _ _ _ _ _ _ _ _ _
      | exact ih2 _ _ _ _ _ _ _ _
      | exact LeO.none _
      | refine LeO.ite ?_ ?_
      | refine LeO.bind ?_ (fun _ => ?_)
set_option maxHeartbeats 8000000 in
set_option maxRecDepth 100000 in
theorem subst_Check.calls (k : Nat) (A0 : Option Addr) (c0 : Nat) (l0 : List (S85)) (A1 : Option Addr) (c1 : Nat) (l1 : List (S30)) (r : Int) (w : World) (hr0 : Kd.C k85 w A0 l0.length l0) (hc0 : l0.length ≤ c0) (hr1 : Kd.C k30 w A1 l1.length l1) (hc1 : l1.length ≤ c1) (h : subst_Check.f k l0 l1 = some r) (hT : Tabs w) :
    Calls Tryd.prog 49 #[.slice A0 l0.length c0, .slice A1 l1.length c1] w fun e w' => e = .returned (.int .i64 r) ∧ Below w.heap.size w w' := by
  have HT := Aside0.mk hT
  clear hT
  have hu30 := Tryd.underlying30
  have HR0 := Aside0.mk hr0
  have HC0 := Aside0.mk hc0
  clear hr0 hc0
  have HR1 := Aside0.mk hr1
  have HC1 := Aside0.mk hc1
  clear hr1 hc1
  have HB := Aside0.mk (Below.refl w.heap.size w)
  have H : ((term_CheckSig.f l0).bind fun t394 => (if t394 = 0 then (subst_Check.l0 k l0 l1 l1 (l1.length : Int) 0) else (some t394))) = some r := h
  clear h
  replace H := Option.bind_eq_some_iff.mp H
  obtain ⟨t394, A30, H⟩ := H
  replace H : (if t394 = 0 then (subst_Check.l0 k l0 l1 l1 (l1.length : Int) 0) else (some t394)) = some r := H
  have A3 := Aside0.mk A30
  clear A30
  by_cases c4 : t394 = 0
  · rw [if_pos c4] at H
    have c4b0 : (t394 == 0) = true := beq_iff_eq.mpr c4
    have c4b1 : (t394 != 0) = false := bne_eq_false_iff_eq.mpr c4
    clear c4
    have H' := Aside0.mk H
    clear H
    go_enter Tryd.func49, Tryd.ntmps49
    go_wp2_with (first | (go_at_call 73; (with_reducible refine (term_CheckSig.calls _ _ l0 t394 _ ?side1 ?side2 A3.out ?sideT).mono ?_); (case sideT => (first | exact Tabs.below HT.out (Below.refl _ _) | (refine Tabs.below HT.out ?_; repeat (first | (with_reducible first | exact HB.out | exact Below.refl _ _ | apply below_alloc | apply pw_below_drewN | apply below_drew1) | exact HB.out)))); (case side1 => repeat (first | exact HR0.out | (with_reducible refine Kd.C_alloc ?_ _) | (with_reducible refine Kd.C_drewN ?_ _) | (with_reducible refine Kd.C_drew ?_))); (case side2 => exact HC0.out); rintro e w5 ⟨rfl, hb⟩; have n0_ := Aside0.mk (below_step (by repeat (first | (with_reducible first | exact HB.out | apply below_alloc | apply pw_below_drewN | apply below_drew1) | exact HB.out)) hb); clear HB; have HB := n0_; clear n0_; (try clear hb); (try clear hb2); (try clear hk); (try clear hi)))
    repeat (go_quiet (first | (go_at_call 73; (with_reducible refine (term_CheckSig.calls _ _ l0 t394 _ ?side1 ?side2 A3.out ?sideT).mono ?_); (case sideT => (first | exact Tabs.below HT.out (Below.refl _ _) | (refine Tabs.below HT.out ?_; repeat (first | (with_reducible first | exact HB.out | exact Below.refl _ _ | apply below_alloc | apply pw_below_drewN | apply below_drew1) | exact HB.out)))); (case side1 => repeat (first | exact HR0.out | (with_reducible refine Kd.C_alloc ?_ _) | (with_reducible refine Kd.C_drewN ?_ _) | (with_reducible refine Kd.C_drew ?_))); (case side2 => exact HC0.out); rintro e w5 ⟨rfl, hb⟩; have n0_ := Aside0.mk (below_step (by repeat (first | (with_reducible first | exact HB.out | apply below_alloc | apply pw_below_drewN | apply below_drew1) | exact HB.out)) hb); clear HB; have HB := n0_; clear n0_; (try clear hb); (try clear hb2); (try clear hk); (try clear hi))); try go_wp2_with (first | (go_at_call 73; (with_reducible refine (term_CheckSig.calls _ _ l0 t394 _ ?side1 ?side2 A3.out ?sideT).mono ?_); (case sideT => (first | exact Tabs.below HT.out (Below.refl _ _) | (refine Tabs.below HT.out ?_; repeat (first | (with_reducible first | exact HB.out | exact Below.refl _ _ | apply below_alloc | apply pw_below_drewN | apply below_drew1) | exact HB.out)))); (case side1 => repeat (first | exact HR0.out | (with_reducible refine Kd.C_alloc ?_ _) | (with_reducible refine Kd.C_drewN ?_ _) | (with_reducible refine Kd.C_drew ?_))); (case side2 => exact HC0.out); rintro e w5 ⟨rfl, hb⟩; have n0_ := Aside0.mk (below_step (by repeat (first | (with_reducible first | exact HB.out | apply below_alloc | apply pw_below_drewN | apply below_drew1) | exact HB.out)) hb); clear HB; have HB := n0_; clear n0_; (try clear hb); (try clear hb2); (try clear hk); (try clear hi))))
    go_loopg [16] k (fun kq v16 w' => ∃ (x16_1 : Int), v16 = .int .i64 x16_1 ∧ Aside0 (subst_Check.l0 kq l0 l1 l1 (l1.length : Int) x16_1 = some r) ∧ Aside0 (kq ≤ k) ∧ Aside0 (Below w.heap.size w w'))
    case atStart => exact ⟨(0), (by first | rfl | (simp; done) | (simp [*]; done)), H', ⟨Nat.le_refl _⟩, ⟨by repeat (first | (with_reducible first | exact HB.out | apply below_alloc | apply pw_below_drewN | apply below_drew1) | exact HB.out)⟩⟩
    case round =>
      clear H'
      try clear c1
      try clear p2
      try clear c4
      try clear c4b0
      try clear c4b1
      obtain ⟨x16_1, rfl, HA, HK1, HB⟩ := hrel
      cases gk with
      | zero => exact absurd HA.out (by simp [subst_Check.l0])
      | succ k1 =>
        have H := HA.out
        clear HA
        simp only [subst_Check.l0] at H
        by_cases c6 : x16_1 < (l1.length : Int)
        · rw [if_pos c6] at H
          have c6b0 : decide (x16_1 < (l1.length : Int)) = true := decide_eq_true c6
          clear c6
          by_cases c7 : 0 ≤ x16_1
          · rw [if_pos c7] at H
            have c7b0 : decide (0 ≤ x16_1) = true := decide_eq_true c7
            clear c7
            by_cases c8 : x16_1 < (l1.length : Int)
            · rw [if_pos c8] at H
              have c8b0 : decide (x16_1 < (l1.length : Int)) = true := decide_eq_true c8
              clear c8
              have HC9 := Aside0.mk H
              clear H
              have p395 : 0 ≤ (x16_1 : Int) := of_decide_eq_true (by first | (with_reducible assumption) | assumption)
              have q395 : x16_1 < (l1.length : Int) := of_decide_eq_true (by first | (with_reducible assumption) | assumption)
              obtain ⟨ad395, A395_1, c395_1, e395, hx395_0, hx395_1, hl395_1, hi395_1⟩ := at_T30 HR1.out x16_1 p395 q395
              cases e395
              replace hx395_0 := (HB.out.cell (World.block_lt_of_cell? w _ hx395_0)).trans hx395_0
              replace hx395_1 := (HB.out.cell (World.block_lt_of_cell? w _ hx395_1)).trans hx395_1
              have HR395_1 := Aside0.mk hi395_1
              have HC395_1 := Aside0.mk hl395_1
              clear hi395_1 hl395_1
              replace p395 := eq_true p395
              replace q395 := eq_true q395
              go_upto_region 7 with (first | ((with_reducible refine gate_dst (N := 7) rfl ?_); refine box_event ?hg (N := 7) ?hd (cs := #[.int .i64 0, .slice none 0 0]) (t := 30) ?hr ?_; (case hd => rfl); (case hg => rfl); (case hr => first | (go_simp; done) | (go_simp; rfl)); intro gb396 hg w10 hbox hb; have n0_ := Aside0.mk (below_step (by repeat (first | (with_reducible first | exact HB.out | apply below_alloc | apply pw_below_drewN | apply below_drew1) | exact HB.out)) hb); have n1_ := Aside0.mk (hbox); have n2_ := Aside0.mk ((by rw [hg]; exact (below_size (by repeat (first | (with_reducible first | exact HB.out | apply below_alloc | apply pw_below_drewN | apply below_drew1) | exact HB.out))) : w.heap.size ≤ gb396)); have n3_ := Aside0.mk ((by rw [hg]; exact (below_size (by repeat (first | (with_reducible first | exact HB.out | apply below_alloc | apply pw_below_drewN | apply below_drew1) | exact HB.out))) : w.heap.size ≤ gb396)); clear HB; have HB := n0_; have BK396 := n1_; have GW396 := n2_; have GE396 := n3_; clear n0_ n1_ n2_ n3_; clear hb hbox hg; have hcz11_0 : w10.cell? ⟨gb396, 0, none⟩ = some (.int .i64 0) := (blk_cell BK396.out 0).trans rfl; have hcz11_1 : w10.cell? ⟨gb396, 1, none⟩ = some (.slice none 0 0) := (blk_cell BK396.out 1).trans rfl; have hfz11_0 := blk_frozen BK396.out 0; have hfz11_1 := blk_frozen BK396.out 1))
              repeat (go_quiet (first | ((with_reducible refine gate_dst (N := 7) rfl ?_); refine box_event ?hg (N := 7) ?hd (cs := #[.int .i64 0, .slice none 0 0]) (t := 30) ?hr ?_; (case hd => rfl); (case hg => rfl); (case hr => first | (go_simp; done) | (go_simp; rfl)); intro gb396 hg w10 hbox hb; have n0_ := Aside0.mk (below_step (by repeat (first | (with_reducible first | exact HB.out | apply below_alloc | apply pw_below_drewN | apply below_drew1) | exact HB.out)) hb); have n1_ := Aside0.mk (hbox); have n2_ := Aside0.mk ((by rw [hg]; exact (below_size (by repeat (first | (with_reducible first | exact HB.out | apply below_alloc | apply pw_below_drewN | apply below_drew1) | exact HB.out))) : w.heap.size ≤ gb396)); have n3_ := Aside0.mk ((by rw [hg]; exact (below_size (by repeat (first | (with_reducible first | exact HB.out | apply below_alloc | apply pw_below_drewN | apply below_drew1) | exact HB.out))) : w.heap.size ≤ gb396)); clear HB; have HB := n0_; have BK396 := n1_; have GW396 := n2_; have GE396 := n3_; clear n0_ n1_ n2_ n3_; clear hb hbox hg; have hcz11_0 : w10.cell? ⟨gb396, 0, none⟩ = some (.int .i64 0) := (blk_cell BK396.out 0).trans rfl; have hcz11_1 : w10.cell? ⟨gb396, 1, none⟩ = some (.slice none 0 0) := (blk_cell BK396.out 1).trans rfl; have hfz11_0 := blk_frozen BK396.out 0; have hfz11_1 := blk_frozen BK396.out 1)); go_upto_region 7 with (first | ((with_reducible refine gate_dst (N := 7) rfl ?_); refine box_event ?hg (N := 7) ?hd (cs := #[.int .i64 0, .slice none 0 0]) (t := 30) ?hr ?_; (case hd => rfl); (case hg => rfl); (case hr => first | (go_simp; done) | (go_simp; rfl)); intro gb396 hg w10 hbox hb; have n0_ := Aside0.mk (below_step (by repeat (first | (with_reducible first | exact HB.out | apply below_alloc | apply pw_below_drewN | apply below_drew1) | exact HB.out)) hb); have n1_ := Aside0.mk (hbox); have n2_ := Aside0.mk ((by rw [hg]; exact (below_size (by repeat (first | (with_reducible first | exact HB.out | apply below_alloc | apply pw_below_drewN | apply below_drew1) | exact HB.out))) : w.heap.size ≤ gb396)); have n3_ := Aside0.mk ((by rw [hg]; exact (below_size (by repeat (first | (with_reducible first | exact HB.out | apply below_alloc | apply pw_below_drewN | apply below_drew1) | exact HB.out))) : w.heap.size ≤ gb396)); clear HB; have HB := n0_; have BK396 := n1_; have GW396 := n2_; have GE396 := n3_; clear n0_ n1_ n2_ n3_; clear hb hbox hg; have hcz11_0 : w10.cell? ⟨gb396, 0, none⟩ = some (.int .i64 0) := (blk_cell BK396.out 0).trans rfl; have hcz11_1 : w10.cell? ⟨gb396, 1, none⟩ = some (.slice none 0 0) := (blk_cell BK396.out 1).trans rfl; have hfz11_0 := blk_frozen BK396.out 0; have hfz11_1 := blk_frozen BK396.out 1)))
              (try simp only [Act.put, List.setIfInBounds_toArray, List.set_cons_zero, List.set_cons_succ])
              go_cut [21] (fun v21 wc => ∃ (kq : Nat) (x21_8 : Bool), v21 = .bool x21_8 ∧ Aside0 (subst_Check.j1 kq l0 l1 x16_1 l1 (l1.length : Int) x16_1 x21_8 ((rd_T30 l1 x16_1).f0) ((rd_T30 l1 x16_1).f1) = some r) ∧ Aside0 (kq ≤ k1) ∧ Aside0 (wc.heap[gb396]? = some (.cells #[.int .i64 ((rd_T30 l1 x16_1).f0), (.slice A395_1 ((rd_T30 l1 x16_1).f1).length c395_1)] 30 (0, 0))) ∧ Aside0 (Below w.heap.size w wc))
              case first =>
                have H := HC9.out
                clear HC9
                by_cases c12 : ((rd_T30 l1 x16_1).f0) < 0
                · rw [if_pos c12] at H
                  have c12b0 : decide (((rd_T30 l1 x16_1).f0) < 0) = true := decide_eq_true c12
                  clear c12
                  (first | rw [c12b0] | (simp only [i64_w, i32_w]; rw [c12b0]) | skip)
                  have H' := Aside0.mk H
                  clear H
                  have hcz13_0 : w10.cell? ⟨gb396, 0, none⟩ = some (.int .i64 0) := (blk_cell BK396.out 0).trans rfl
                  have hcz13_1 : w10.cell? ⟨gb396, 1, none⟩ = some (.slice none 0 0) := (blk_cell BK396.out 1).trans rfl
                  have hfz13_0 := blk_frozen BK396.out 0
                  have hfz13_1 := blk_frozen BK396.out 1
                  go_wp2
                  repeat (go_quiet (fail); try go_wp2)
                  go_meet
                  case rel => exact ⟨_, (true), (by first | rfl | (simp; done) | (simp [*]; done)), H', ⟨by have := HK1.out; first | omega | exact Nat.le_refl _⟩, ⟨by (with_reducible repeat (first | refine blk_drewN ?_ _ | refine blk_drew ?_ | refine blk_alloc ?_ _)); refine blk_put (cs := #[.int .i64 ((rd_T30 l1 x16_1).f0), .slice none 0 0]) ?_ 1 _ rfl; (with_reducible repeat (first | refine blk_drewN ?_ _ | refine blk_drew ?_ | refine blk_alloc ?_ _)); refine blk_put (cs := #[.int .i64 0, .slice none 0 0]) ?_ 0 _ rfl; (with_reducible repeat (first | refine blk_drewN ?_ _ | refine blk_drew ?_ | refine blk_alloc ?_ _)); exact BK396.out⟩, ⟨by repeat (first | (with_reducible first | exact HB.out | apply below_alloc | apply pw_below_drewN | apply below_drew1 | refine below_set ?_ GE396.out) | exact HB.out)⟩⟩
                · rw [if_neg c12] at H
                  have c12b0 : decide (((rd_T30 l1 x16_1).f0) < 0) = false := decide_eq_false c12
                  clear c12
                  (first | rw [c12b0] | (simp only [i64_w, i32_w]; rw [c12b0]) | skip)
                  have H' := Aside0.mk H
                  clear H
                  have hcz14_0 : w10.cell? ⟨gb396, 0, none⟩ = some (.int .i64 0) := (blk_cell BK396.out 0).trans rfl
                  have hcz14_1 : w10.cell? ⟨gb396, 1, none⟩ = some (.slice none 0 0) := (blk_cell BK396.out 1).trans rfl
                  have hfz14_0 := blk_frozen BK396.out 0
                  have hfz14_1 := blk_frozen BK396.out 1
                  go_wp2
                  repeat (go_quiet (fail); try go_wp2)
                  go_meet
                  case rel => exact ⟨_, (decide (((rd_T30 l1 x16_1).f0) ≥ 1048576)), (by first | rfl | (simp; done) | (simp [*]; done)), H', ⟨by have := HK1.out; first | omega | exact Nat.le_refl _⟩, ⟨by (with_reducible repeat (first | refine blk_drewN ?_ _ | refine blk_drew ?_ | refine blk_alloc ?_ _)); refine blk_put (cs := #[.int .i64 ((rd_T30 l1 x16_1).f0), .slice none 0 0]) ?_ 1 _ rfl; (with_reducible repeat (first | refine blk_drewN ?_ _ | refine blk_drew ?_ | refine blk_alloc ?_ _)); refine blk_put (cs := #[.int .i64 0, .slice none 0 0]) ?_ 0 _ rfl; (with_reducible repeat (first | refine blk_drewN ?_ _ | refine blk_drew ?_ | refine blk_alloc ?_ _)); exact BK396.out⟩, ⟨by repeat (first | (with_reducible first | exact HB.out | apply below_alloc | apply pw_below_drewN | apply below_drew1 | refine below_set ?_ GE396.out) | exact HB.out)⟩⟩
              case rest =>
                clear HC9
                try clear c1
                try clear p2
                try clear c3
                try clear p3
                try clear q3
                try clear hx3
                try clear c4
                try clear c4b0
                try clear c4b1
                try clear c6
                try clear c6b0
                try clear c7
                try clear c7b0
                try clear c8
                try clear c8b0
                try clear c12
                try clear c12b0
                try clear hcz11_0
                try clear hcz11_1
                try clear hcz13_0
                try clear hcz13_1
                try clear hcz14_0
                try clear hcz14_1
                try clear hfz11_0
                try clear hfz11_1
                try clear hfz13_0
                try clear hfz13_1
                try clear hfz14_0
                try clear hfz14_1
                try clear hx395_0
                try clear hx395_1
                try clear p2
                try clear p395
                try clear q395
                obtain ⟨kq, x21_8, rfl, HA, HJ8, BK396, HB⟩ := hcut
                cases kq with
                | zero => exact absurd HA.out (by simp [subst_Check.j1])
                | succ kj8 =>
                  have H := HA.out
                  clear HA
                  simp only [subst_Check.j1] at H
                  by_cases c15 : x21_8 = true
                  · subst c15
                    have H1 : (some 40) = some r := by rw [if_pos rfl] at H; exact H
                    clear H
                    have H := H1
                    clear H1
                    obtain rfl := Option.some.inj H
                    go_wp2
                    repeat (go_quiet (fail); try go_wp2)
                    go_ret
                    exact ⟨by first | rfl | (simp [errW_none, errW_some] <;> rfl) | (simp [*, errW_none, errW_some] <;> rfl), by repeat (first | (with_reducible first | exact HB.out | apply below_alloc | apply pw_below_drewN | apply below_drew1 | refine below_set ?_ GE396.out) | exact HB.out)⟩
                  · replace c15 := Bool.eq_false_iff.mpr c15
                    subst c15
                    have H1 : (if x16_1 > 0 then (if 0 ≤ (wrap64 (x16_1 - 1)) then (if (wrap64 (x16_1 - 1)) < (l1.length : Int) then (subst_Check.j2 kj8 l0 l1 l1 (l1.length : Int) x16_1 (decide (((rd_T30 l1 x16_1).f0) ≤ ((rd_T30 l1 (wrap64 (x16_1 - 1))).f0))) ((rd_T30 l1 x16_1).f0) ((rd_T30 l1 x16_1).f1)) else (none)) else (none)) else (subst_Check.j2 kj8 l0 l1 l1 (l1.length : Int) x16_1 false ((rd_T30 l1 x16_1).f0) ((rd_T30 l1 x16_1).f1))) = some r := by rw [if_neg (show ¬ (false = true) by decide)] at H; exact H
                    clear H
                    have H := H1
                    clear H1
                    have HC16 := Aside0.mk H
                    clear H
                    go_upto_region 9 with (fail)
                    repeat (go_quiet (fail); go_upto_region 9 with (fail))
                    go_cut [30] (fun v30 wc => ∃ (kq : Nat) (x30_15 : Bool), v30 = .bool x30_15 ∧ Aside0 (subst_Check.j2 kq l0 l1 l1 (l1.length : Int) x16_1 x30_15 ((rd_T30 l1 x16_1).f0) ((rd_T30 l1 x16_1).f1) = some r) ∧ Aside0 (kq ≤ kj8) ∧ Aside0 (wc.heap[gb396]? = some (.cells #[.int .i64 ((rd_T30 l1 x16_1).f0), (.slice A395_1 ((rd_T30 l1 x16_1).f1).length c395_1)] 30 (0, 0))) ∧ Aside0 (Below w.heap.size w wc))
                    case first =>
                      have H := HC16.out
                      clear HC16
                      by_cases c17 : x16_1 > 0
                      · rw [if_pos c17] at H
                        have c17b0 : decide (0 < x16_1) = true := decide_eq_true c17
                        clear c17
                        (first | rw [c17b0] | (simp only [i64_w, i32_w]; rw [c17b0]) | skip)
                        obtain ⟨ji18, hji18⟩ : ∃ j_ : Int, (wrap64 (x16_1 - 1)) = j_ := ⟨_, rfl⟩
                        replace H : (if 0 ≤ (ji18) then (if (ji18) < (l1.length : Int) then (subst_Check.j2 kj8 l0 l1 l1 (l1.length : Int) x16_1 (decide (((rd_T30 l1 x16_1).f0) ≤ ((rd_T30 l1 (ji18)).f0))) ((rd_T30 l1 x16_1).f0) ((rd_T30 l1 x16_1).f1)) else (none)) else (none)) = some r := by first | (rw [hji18] at H; exact H) | (simp only [hji18] at H ⊢; exact H)
                        have hji18w : (IntKind.i64.wrap (x16_1 - 1)) = ji18 := (i64_w _).trans hji18
                        by_cases c19 : 0 ≤ (ji18)
                        · rw [if_pos c19] at H
                          have c19b0 : decide (0 ≤ (ji18)) = true := decide_eq_true c19
                          clear c19
                          by_cases c20 : (ji18) < (l1.length : Int)
                          · rw [if_pos c20] at H
                            have c20b0 : decide ((ji18) < (l1.length : Int)) = true := decide_eq_true c20
                            clear c20
                            have H' := Aside0.mk H
                            clear H
                            have hcz21_0 : wc.cell? ⟨gb396, 0, none⟩ = some (.int .i64 ((rd_T30 l1 x16_1).f0)) := (blk_cell BK396.out 0).trans rfl
                            have hcz21_1 : wc.cell? ⟨gb396, 1, none⟩ = some (.slice A395_1 ((rd_T30 l1 x16_1).f1).length c395_1) := (blk_cell BK396.out 1).trans rfl
                            have hfz21_0 := blk_frozen BK396.out 0
                            have hfz21_1 := blk_frozen BK396.out 1
                            have p397 : 0 ≤ ((ji18) : Int) := of_decide_eq_true (by first | (with_reducible assumption) | assumption)
                            have q397 : (ji18) < (l1.length : Int) := of_decide_eq_true (by first | (with_reducible assumption) | assumption)
                            obtain ⟨ad397, A397_1, c397_1, e397, hx397_0, hx397_1, hl397_1, hi397_1⟩ := at_T30 HR1.out (ji18) p397 q397
                            obtain rfl : ad395 = ad397 := (by injection e397)
                            replace hx397_0 := (HB.out.cell (World.block_lt_of_cell? w _ hx397_0)).trans hx397_0
                            replace hx397_1 := (HB.out.cell (World.block_lt_of_cell? w _ hx397_1)).trans hx397_1
                            have HR397_1 := Aside0.mk hi397_1
                            have HC397_1 := Aside0.mk hl397_1
                            clear hi397_1 hl397_1
                            replace p397 := eq_true p397
                            replace q397 := eq_true q397
                            go_wp2
                            repeat (go_quiet (fail); try go_wp2)
                            go_meet
                            case rel => exact ⟨_, (decide (((rd_T30 l1 x16_1).f0) ≤ ((rd_T30 l1 (ji18)).f0))), (by first | rfl | (simp; done) | (simp only [← hji18] <;> (first | rfl | simp)) | (simp [*]; done)), H', ⟨by have := HK1.out; have := HJ8.out; first | omega | exact Nat.le_refl _⟩, ⟨by (with_reducible repeat (first | refine blk_drewN ?_ _ | refine blk_drew ?_ | refine blk_alloc ?_ _)); exact BK396.out⟩, ⟨by repeat (first | (with_reducible first | exact HB.out | apply below_alloc | apply pw_below_drewN | apply below_drew1 | refine below_set ?_ GE396.out) | exact HB.out)⟩⟩
                          · rw [if_neg c20] at H
                            exact absurd H (by simp)
                        · rw [if_neg c19] at H
                          exact absurd H (by simp)
                      · rw [if_neg c17] at H
                        have c17b0 : decide (0 < x16_1) = false := decide_eq_false c17
                        clear c17
                        (first | rw [c17b0] | (simp only [i64_w, i32_w]; rw [c17b0]) | skip)
                        have H' := Aside0.mk H
                        clear H
                        go_wp2
                        repeat (go_quiet (fail); try go_wp2)
                        go_meet
                        case rel => exact ⟨_, (false), (by first | rfl | (simp; done) | (simp [*]; done)), H', ⟨by have := HK1.out; have := HJ8.out; first | omega | exact Nat.le_refl _⟩, ⟨by (with_reducible repeat (first | refine blk_drewN ?_ _ | refine blk_drew ?_ | refine blk_alloc ?_ _)); exact BK396.out⟩, ⟨by repeat (first | (with_reducible first | exact HB.out | apply below_alloc | apply pw_below_drewN | apply below_drew1 | refine below_set ?_ GE396.out) | exact HB.out)⟩⟩
                    case rest =>
                      clear HC16
                      try clear c1
                      try clear c2
                      try clear p2
                      try clear c3
                      try clear p3
                      try clear q3
                      try clear hx3
                      try clear c4
                      try clear c4b0
                      try clear c4b1
                      try clear c6
                      try clear c6b0
                      try clear p6
                      try clear c7
                      try clear c7b0
                      try clear c8
                      try clear c8b0
                      try clear c12
                      try clear c12b0
                      try clear c15
                      try clear c17
                      try clear c17b0
                      try clear c19
                      try clear c19b0
                      try clear c20
                      try clear c20b0
                      try clear hcz11_0
                      try clear hcz11_1
                      try clear hcz13_0
                      try clear hcz13_1
                      try clear hcz14_0
                      try clear hcz14_1
                      try clear hcz21_0
                      try clear hcz21_1
                      try clear hfz11_0
                      try clear hfz11_1
                      try clear hfz13_0
                      try clear hfz13_1
                      try clear hfz14_0
                      try clear hfz14_1
                      try clear hfz21_0
                      try clear hfz21_1
                      try clear hx395_0
                      try clear hx395_1
                      try clear hx397_0
                      try clear hx397_1
                      try clear p2
                      try clear p3
                      try clear p395
                      try clear p397
                      try clear q3
                      try clear q395
                      try clear q397
                      obtain ⟨kq, x30_15, rfl, HA, HJ15, BK396, HB⟩ := hcut
                      cases kq with
                      | zero => exact absurd HA.out (by simp [subst_Check.j2])
                      | succ kj15 =>
                        have H := HA.out
                        clear HA
                        simp only [subst_Check.j2] at H
                        by_cases c22 : x30_15 = true
                        · subst c22
                          have H1 : (some 41) = some r := by rw [if_pos rfl] at H; exact H
                          clear H
                          have H := H1
                          clear H1
                          obtain rfl := Option.some.inj H
                          go_wp2
                          repeat (go_quiet (fail); try go_wp2)
                          go_ret
                          exact ⟨by first | rfl | (simp [errW_none, errW_some] <;> rfl) | (simp [*, errW_none, errW_some] <;> rfl), by repeat (first | (with_reducible first | exact HB.out | apply below_alloc | apply pw_below_drewN | apply below_drew1 | refine below_set ?_ GE396.out) | exact HB.out)⟩
                        · replace c22 := Bool.eq_false_iff.mpr c22
                          subst c22
                          have H1 : ((term_Check.f l0 ((rd_T30 l1 x16_1).f1)).bind fun t398 => (if t398 = 0 then (subst_Check.l0 kj15 l0 l1 l1 (l1.length : Int) (wrap64 (x16_1 + 1))) else (some t398))) = some r := by rw [if_neg (show ¬ (false = true) by decide)] at H; exact H
                          clear H
                          have H := H1
                          clear H1
                          replace H := Option.bind_eq_some_iff.mp H
                          obtain ⟨t398, A230, H⟩ := H
                          replace H : (if t398 = 0 then (subst_Check.l0 kj15 l0 l1 l1 (l1.length : Int) (wrap64 (x16_1 + 1))) else (some t398)) = some r := H
                          have A23 := Aside0.mk A230
                          clear A230
                          by_cases c24 : t398 = 0
                          · rw [if_pos c24] at H
                            have c24b0 : (t398 == 0) = true := beq_iff_eq.mpr c24
                            have c24b1 : (t398 != 0) = false := bne_eq_false_iff_eq.mpr c24
                            clear c24
                            have H' := Aside0.mk H
                            clear H
                            have hcz25_0 : wc.cell? ⟨gb396, 0, none⟩ = some (.int .i64 ((rd_T30 l1 x16_1).f0)) := (blk_cell BK396.out 0).trans rfl
                            have hcz25_1 : wc.cell? ⟨gb396, 1, none⟩ = some (.slice A395_1 ((rd_T30 l1 x16_1).f1).length c395_1) := (blk_cell BK396.out 1).trans rfl
                            have hfz25_0 := blk_frozen BK396.out 0
                            have hfz25_1 := blk_frozen BK396.out 1
                            go_wp2_with (first | (go_at_call 29; (with_reducible refine (term_Check.calls _ _ l0 _ _ ((rd_T30 l1 x16_1).f1) t398 _ ?side1 ?side2 ?side3 ?side4 A23.out ?sideT).mono ?_); (case sideT => (first | exact Tabs.below HT.out (Below.refl _ _) | (refine Tabs.below HT.out ?_; repeat (first | (with_reducible first | exact HB.out | exact Below.refl _ _ | apply below_alloc | apply pw_below_drewN | apply below_drew1) | exact HB.out)))); (case side1 => repeat (first | exact (Kd.C_below HR0.out HB.out) | (with_reducible refine Kd.C_alloc ?_ _) | (with_reducible refine Kd.C_drewN ?_ _) | (with_reducible refine Kd.C_drew ?_))); (case side2 => exact HC0.out); (case side3 => repeat (first | exact (Kd.C_below HR395_1.out HB.out) | (with_reducible refine Kd.C_alloc ?_ _) | (with_reducible refine Kd.C_drewN ?_ _) | (with_reducible refine Kd.C_drew ?_))); (case side4 => exact HC395_1.out); rintro e w26 ⟨rfl, hb⟩; have n0_ := Aside0.mk (blk_below (g := gb396) (o := .cells #[.int .i64 ((rd_T30 l1 x16_1).f0), .slice A395_1 ((rd_T30 l1 x16_1).f1).length c395_1] 30 (0, 0)) (by (with_reducible repeat (first | refine blk_drewN ?_ _ | refine blk_drew ?_ | refine blk_alloc ?_ _)); exact BK396.out) hb); have n1_ := Aside0.mk (below_step (by repeat (first | (with_reducible first | exact HB.out | apply below_alloc | apply pw_below_drewN | apply below_drew1 | refine below_set ?_ GE396.out) | exact HB.out)) hb); clear BK396; clear HB; have BK396 := n0_; have HB := n1_; clear n0_ n1_; (try clear hb); (try clear hb2); (try clear hk); (try clear hi)))
                            repeat (go_quiet (first | (go_at_call 29; (with_reducible refine (term_Check.calls _ _ l0 _ _ ((rd_T30 l1 x16_1).f1) t398 _ ?side1 ?side2 ?side3 ?side4 A23.out ?sideT).mono ?_); (case sideT => (first | exact Tabs.below HT.out (Below.refl _ _) | (refine Tabs.below HT.out ?_; repeat (first | (with_reducible first | exact HB.out | exact Below.refl _ _ | apply below_alloc | apply pw_below_drewN | apply below_drew1) | exact HB.out)))); (case side1 => repeat (first | exact (Kd.C_below HR0.out HB.out) | (with_reducible refine Kd.C_alloc ?_ _) | (with_reducible refine Kd.C_drewN ?_ _) | (with_reducible refine Kd.C_drew ?_))); (case side2 => exact HC0.out); (case side3 => repeat (first | exact (Kd.C_below HR395_1.out HB.out) | (with_reducible refine Kd.C_alloc ?_ _) | (with_reducible refine Kd.C_drewN ?_ _) | (with_reducible refine Kd.C_drew ?_))); (case side4 => exact HC395_1.out); rintro e w26 ⟨rfl, hb⟩; have n0_ := Aside0.mk (blk_below (g := gb396) (o := .cells #[.int .i64 ((rd_T30 l1 x16_1).f0), .slice A395_1 ((rd_T30 l1 x16_1).f1).length c395_1] 30 (0, 0)) (by (with_reducible repeat (first | refine blk_drewN ?_ _ | refine blk_drew ?_ | refine blk_alloc ?_ _)); exact BK396.out) hb); have n1_ := Aside0.mk (below_step (by repeat (first | (with_reducible first | exact HB.out | apply below_alloc | apply pw_below_drewN | apply below_drew1 | refine below_set ?_ GE396.out) | exact HB.out)) hb); clear BK396; clear HB; have BK396 := n0_; have HB := n1_; clear n0_ n1_; (try clear hb); (try clear hb2); (try clear hk); (try clear hi))); try go_wp2_with (first | (go_at_call 29; (with_reducible refine (term_Check.calls _ _ l0 _ _ ((rd_T30 l1 x16_1).f1) t398 _ ?side1 ?side2 ?side3 ?side4 A23.out ?sideT).mono ?_); (case sideT => (first | exact Tabs.below HT.out (Below.refl _ _) | (refine Tabs.below HT.out ?_; repeat (first | (with_reducible first | exact HB.out | exact Below.refl _ _ | apply below_alloc | apply pw_below_drewN | apply below_drew1) | exact HB.out)))); (case side1 => repeat (first | exact (Kd.C_below HR0.out HB.out) | (with_reducible refine Kd.C_alloc ?_ _) | (with_reducible refine Kd.C_drewN ?_ _) | (with_reducible refine Kd.C_drew ?_))); (case side2 => exact HC0.out); (case side3 => repeat (first | exact (Kd.C_below HR395_1.out HB.out) | (with_reducible refine Kd.C_alloc ?_ _) | (with_reducible refine Kd.C_drewN ?_ _) | (with_reducible refine Kd.C_drew ?_))); (case side4 => exact HC395_1.out); rintro e w26 ⟨rfl, hb⟩; have n0_ := Aside0.mk (blk_below (g := gb396) (o := .cells #[.int .i64 ((rd_T30 l1 x16_1).f0), .slice A395_1 ((rd_T30 l1 x16_1).f1).length c395_1] 30 (0, 0)) (by (with_reducible repeat (first | refine blk_drewN ?_ _ | refine blk_drew ?_ | refine blk_alloc ?_ _)); exact BK396.out) hb); have n1_ := Aside0.mk (below_step (by repeat (first | (with_reducible first | exact HB.out | apply below_alloc | apply pw_below_drewN | apply below_drew1 | refine below_set ?_ GE396.out) | exact HB.out)) hb); clear BK396; clear HB; have BK396 := n0_; have HB := n1_; clear n0_ n1_; (try clear hb); (try clear hb2); (try clear hk); (try clear hi))))
                            go_roundg kj15
                            case measure => have := HK1.out; have := HJ8.out; have := HJ15.out; omega
                            case rel => exact ⟨(wrap64 (x16_1 + 1)), (by first | rfl | (simp; done) | (simp [*]; done)), H', ⟨by have := HK1.out; have := HJ8.out; have := HJ15.out; omega⟩, ⟨by repeat (first | (with_reducible first | exact HB.out | apply below_alloc | apply pw_below_drewN | apply below_drew1 | refine below_set ?_ GE396.out) | exact HB.out)⟩⟩
                          · rw [if_neg c24] at H
                            have c24b0 : (t398 == 0) = false := beq_eq_false_iff_ne.mpr c24
                            have c24b1 : (t398 != 0) = true := bne_iff_ne.mpr c24
                            obtain rfl := Option.some.inj H
                            have hcz27_0 : wc.cell? ⟨gb396, 0, none⟩ = some (.int .i64 ((rd_T30 l1 x16_1).f0)) := (blk_cell BK396.out 0).trans rfl
                            have hcz27_1 : wc.cell? ⟨gb396, 1, none⟩ = some (.slice A395_1 ((rd_T30 l1 x16_1).f1).length c395_1) := (blk_cell BK396.out 1).trans rfl
                            have hfz27_0 := blk_frozen BK396.out 0
                            have hfz27_1 := blk_frozen BK396.out 1
                            go_wp2_with (first | (go_at_call 29; (with_reducible refine (term_Check.calls _ _ l0 _ _ ((rd_T30 l1 x16_1).f1) t398 _ ?side1 ?side2 ?side3 ?side4 A23.out ?sideT).mono ?_); (case sideT => (first | exact Tabs.below HT.out (Below.refl _ _) | (refine Tabs.below HT.out ?_; repeat (first | (with_reducible first | exact HB.out | exact Below.refl _ _ | apply below_alloc | apply pw_below_drewN | apply below_drew1) | exact HB.out)))); (case side1 => repeat (first | exact (Kd.C_below HR0.out HB.out) | (with_reducible refine Kd.C_alloc ?_ _) | (with_reducible refine Kd.C_drewN ?_ _) | (with_reducible refine Kd.C_drew ?_))); (case side2 => exact HC0.out); (case side3 => repeat (first | exact (Kd.C_below HR395_1.out HB.out) | (with_reducible refine Kd.C_alloc ?_ _) | (with_reducible refine Kd.C_drewN ?_ _) | (with_reducible refine Kd.C_drew ?_))); (case side4 => exact HC395_1.out); rintro e w28 ⟨rfl, hb⟩; have n0_ := Aside0.mk (blk_below (g := gb396) (o := .cells #[.int .i64 ((rd_T30 l1 x16_1).f0), .slice A395_1 ((rd_T30 l1 x16_1).f1).length c395_1] 30 (0, 0)) (by (with_reducible repeat (first | refine blk_drewN ?_ _ | refine blk_drew ?_ | refine blk_alloc ?_ _)); exact BK396.out) hb); have n1_ := Aside0.mk (below_step (by repeat (first | (with_reducible first | exact HB.out | apply below_alloc | apply pw_below_drewN | apply below_drew1 | refine below_set ?_ GE396.out) | exact HB.out)) hb); clear BK396; clear HB; have BK396 := n0_; have HB := n1_; clear n0_ n1_; (try clear hb); (try clear hb2); (try clear hk); (try clear hi)))
                            repeat (go_quiet (first | (go_at_call 29; (with_reducible refine (term_Check.calls _ _ l0 _ _ ((rd_T30 l1 x16_1).f1) t398 _ ?side1 ?side2 ?side3 ?side4 A23.out ?sideT).mono ?_); (case sideT => (first | exact Tabs.below HT.out (Below.refl _ _) | (refine Tabs.below HT.out ?_; repeat (first | (with_reducible first | exact HB.out | exact Below.refl _ _ | apply below_alloc | apply pw_below_drewN | apply below_drew1) | exact HB.out)))); (case side1 => repeat (first | exact (Kd.C_below HR0.out HB.out) | (with_reducible refine Kd.C_alloc ?_ _) | (with_reducible refine Kd.C_drewN ?_ _) | (with_reducible refine Kd.C_drew ?_))); (case side2 => exact HC0.out); (case side3 => repeat (first | exact (Kd.C_below HR395_1.out HB.out) | (with_reducible refine Kd.C_alloc ?_ _) | (with_reducible refine Kd.C_drewN ?_ _) | (with_reducible refine Kd.C_drew ?_))); (case side4 => exact HC395_1.out); rintro e w28 ⟨rfl, hb⟩; have n0_ := Aside0.mk (blk_below (g := gb396) (o := .cells #[.int .i64 ((rd_T30 l1 x16_1).f0), .slice A395_1 ((rd_T30 l1 x16_1).f1).length c395_1] 30 (0, 0)) (by (with_reducible repeat (first | refine blk_drewN ?_ _ | refine blk_drew ?_ | refine blk_alloc ?_ _)); exact BK396.out) hb); have n1_ := Aside0.mk (below_step (by repeat (first | (with_reducible first | exact HB.out | apply below_alloc | apply pw_below_drewN | apply below_drew1 | refine below_set ?_ GE396.out) | exact HB.out)) hb); clear BK396; clear HB; have BK396 := n0_; have HB := n1_; clear n0_ n1_; (try clear hb); (try clear hb2); (try clear hk); (try clear hi))); try go_wp2_with (first | (go_at_call 29; (with_reducible refine (term_Check.calls _ _ l0 _ _ ((rd_T30 l1 x16_1).f1) t398 _ ?side1 ?side2 ?side3 ?side4 A23.out ?sideT).mono ?_); (case sideT => (first | exact Tabs.below HT.out (Below.refl _ _) | (refine Tabs.below HT.out ?_; repeat (first | (with_reducible first | exact HB.out | exact Below.refl _ _ | apply below_alloc | apply pw_below_drewN | apply below_drew1) | exact HB.out)))); (case side1 => repeat (first | exact (Kd.C_below HR0.out HB.out) | (with_reducible refine Kd.C_alloc ?_ _) | (with_reducible refine Kd.C_drewN ?_ _) | (with_reducible refine Kd.C_drew ?_))); (case side2 => exact HC0.out); (case side3 => repeat (first | exact (Kd.C_below HR395_1.out HB.out) | (with_reducible refine Kd.C_alloc ?_ _) | (with_reducible refine Kd.C_drewN ?_ _) | (with_reducible refine Kd.C_drew ?_))); (case side4 => exact HC395_1.out); rintro e w28 ⟨rfl, hb⟩; have n0_ := Aside0.mk (blk_below (g := gb396) (o := .cells #[.int .i64 ((rd_T30 l1 x16_1).f0), .slice A395_1 ((rd_T30 l1 x16_1).f1).length c395_1] 30 (0, 0)) (by (with_reducible repeat (first | refine blk_drewN ?_ _ | refine blk_drew ?_ | refine blk_alloc ?_ _)); exact BK396.out) hb); have n1_ := Aside0.mk (below_step (by repeat (first | (with_reducible first | exact HB.out | apply below_alloc | apply pw_below_drewN | apply below_drew1 | refine below_set ?_ GE396.out) | exact HB.out)) hb); clear BK396; clear HB; have BK396 := n0_; have HB := n1_; clear n0_ n1_; (try clear hb); (try clear hb2); (try clear hk); (try clear hi))))
                            go_ret
                            exact ⟨by first | rfl | (simp [errW_none, errW_some] <;> rfl) | (simp [*, errW_none, errW_some] <;> rfl), by repeat (first | (with_reducible first | exact HB.out | apply below_alloc | apply pw_below_drewN | apply below_drew1 | refine below_set ?_ GE396.out) | exact HB.out)⟩
            · rw [if_neg c8] at H
              exact absurd H (by simp)
          · rw [if_neg c7] at H
            exact absurd H (by simp)
        · rw [if_neg c6] at H
          have c6b0 : decide (x16_1 < (l1.length : Int)) = false := decide_eq_false c6
          clear c6
          obtain rfl := Option.some.inj H
          go_wp2
          repeat (go_quiet (fail); try go_wp2)
          go_ret
          exact ⟨by first | rfl | (simp [errW_none, errW_some] <;> rfl) | (simp [*, errW_none, errW_some] <;> rfl), by repeat (first | (with_reducible first | exact HB.out | apply below_alloc | apply pw_below_drewN | apply below_drew1) | exact HB.out)⟩
  · rw [if_neg c4] at H
    have c4b0 : (t394 == 0) = false := beq_eq_false_iff_ne.mpr c4
    have c4b1 : (t394 != 0) = true := bne_iff_ne.mpr c4
    obtain rfl := Option.some.inj H
    go_enter Tryd.func49, Tryd.ntmps49
    go_wp2_with (first | (go_at_call 73; (with_reducible refine (term_CheckSig.calls _ _ l0 t394 _ ?side1 ?side2 A3.out ?sideT).mono ?_); (case sideT => (first | exact Tabs.below HT.out (Below.refl _ _) | (refine Tabs.below HT.out ?_; repeat (first | (with_reducible first | exact HB.out | exact Below.refl _ _ | apply below_alloc | apply pw_below_drewN | apply below_drew1) | exact HB.out)))); (case side1 => repeat (first | exact HR0.out | (with_reducible refine Kd.C_alloc ?_ _) | (with_reducible refine Kd.C_drewN ?_ _) | (with_reducible refine Kd.C_drew ?_))); (case side2 => exact HC0.out); rintro e w29 ⟨rfl, hb⟩; have n0_ := Aside0.mk (below_step (by repeat (first | (with_reducible first | exact HB.out | apply below_alloc | apply pw_below_drewN | apply below_drew1) | exact HB.out)) hb); clear HB; have HB := n0_; clear n0_; (try clear hb); (try clear hb2); (try clear hk); (try clear hi)))
    repeat (go_quiet (first | (go_at_call 73; (with_reducible refine (term_CheckSig.calls _ _ l0 t394 _ ?side1 ?side2 A3.out ?sideT).mono ?_); (case sideT => (first | exact Tabs.below HT.out (Below.refl _ _) | (refine Tabs.below HT.out ?_; repeat (first | (with_reducible first | exact HB.out | exact Below.refl _ _ | apply below_alloc | apply pw_below_drewN | apply below_drew1) | exact HB.out)))); (case side1 => repeat (first | exact HR0.out | (with_reducible refine Kd.C_alloc ?_ _) | (with_reducible refine Kd.C_drewN ?_ _) | (with_reducible refine Kd.C_drew ?_))); (case side2 => exact HC0.out); rintro e w29 ⟨rfl, hb⟩; have n0_ := Aside0.mk (below_step (by repeat (first | (with_reducible first | exact HB.out | apply below_alloc | apply pw_below_drewN | apply below_drew1) | exact HB.out)) hb); clear HB; have HB := n0_; clear n0_; (try clear hb); (try clear hb2); (try clear hk); (try clear hi))); try go_wp2_with (first | (go_at_call 73; (with_reducible refine (term_CheckSig.calls _ _ l0 t394 _ ?side1 ?side2 A3.out ?sideT).mono ?_); (case sideT => (first | exact Tabs.below HT.out (Below.refl _ _) | (refine Tabs.below HT.out ?_; repeat (first | (with_reducible first | exact HB.out | exact Below.refl _ _ | apply below_alloc | apply pw_below_drewN | apply below_drew1) | exact HB.out)))); (case side1 => repeat (first | exact HR0.out | (with_reducible refine Kd.C_alloc ?_ _) | (with_reducible refine Kd.C_drewN ?_ _) | (with_reducible refine Kd.C_drew ?_))); (case side2 => exact HC0.out); rintro e w29 ⟨rfl, hb⟩; have n0_ := Aside0.mk (below_step (by repeat (first | (with_reducible first | exact HB.out | apply below_alloc | apply pw_below_drewN | apply below_drew1) | exact HB.out)) hb); clear HB; have HB := n0_; clear n0_; (try clear hb); (try clear hb2); (try clear hk); (try clear hi))))
    go_ret
    exact ⟨by first | rfl | (simp [errW_none, errW_some] <;> rfl) | (simp [*, errW_none, errW_some] <;> rfl), by repeat (first | (with_reducible first | exact HB.out | apply below_alloc | apply pw_below_drewN | apply below_drew1) | exact HB.out)⟩

end
end Go.Proofs.YtjckddaaeiffpaaDoor.Z
