-- Printed by drv.py (wip), which runs the kit's print over functions some of which are given. Lean checks it.
import Derived.Test.YtjckddaaeiffpaaDoorZ0
import Derived.Test.YtjckddaaeiffpaaDoorZ0d
import Derived.Test.YtjckddaaeiffpaaDoorExtCanon
import Derived.Test.YtjckddaaeiffpaaDoorExtName
import Derived.Test.YtjckddaaeiffpaaDoorExtTree
namespace Go.Proofs.YtjckddaaeiffpaaDoor.Z
open Go.RowKit Go.Proofs.YtjckddaaeiffpaaDoorW.PrintWords Go.Proofs.YtjckddaaeiffpaaDoorW.PrintLast Go.Proofs.YtjckddaaeiffpaaDoorW.PrintMore
attribute [local go_sem] max2_int min2_int max_two min_two max_three min_three max_four min_four   -- for this text's walks alone
set_option linter.unusedVariables false
set_option linter.unusedSimpArgs false

noncomputable section
/-! ### match_Variant: function 28 -/
def match_Variant.l0 : Nat → List (S85) → List (List Int) → Int → Int → List Int → List Int → List Int → List Int → Option (Bool)
  | 0, _, _, _, _, _, _, _, _ => none
  | k + 1, x0, x19, x20, x21, x360000, x360001, x361000, x361001 => if x21 < x20 then (if 0 ≤ x21 then (if x21 < (x19.length : Int) then ((term_Check.f x0 (rd_L3 x19 x21)).bind fun t365 => (if t365 = 0 then (match_Variant.l0 k x0 x19 x20 (wrap64 (x21 + 1)) x360000 x360001 x361000 x361001) else (some false))) else (none)) else (none)) else ((subst_Canon.f (([x360000, x360001] : List (List Int)))).bind fun t369 => ((subst_Canon.f (([x361000, x361001] : List (List Int)))).bind fun t375 => (if 0 < (t369.length : Int) then (if 0 < (t375.length : Int) then ((slices_Equal_int_int.f k (rd_L3 t369 0) (rd_L3 t375 0)).bind fun t380 => (if t380 = true then (if 1 < (t369.length : Int) then (if 1 < (t375.length : Int) then ((slices_Equal_int_int.f k (rd_L3 t369 1) (rd_L3 t375 1)).bind fun t383 => (some t383)) else (none)) else (none)) else (some false))) else (none)) else (none))))
def match_Variant.f (k : Nat) (l0 : List (S85)) (l1_0 : List Int) (l1_1 : List Int) (l2_0 : List Int) (l2_1 : List Int) : Option (Bool) := (some (([l1_0, l1_1, l2_0, l2_1] : List (List Int)) : List (List Int))).bind fun y361 => (match_Variant.l0 k l0 y361 (y361.length : Int) 0 l1_0 l1_1 l2_0 l2_1)
theorem match_Variant.mono_l : ∀ k, (∀ y0 y1 y2 y3 y4 y5 y6 y7, LeO (match_Variant.l0 k y0 y1 y2 y3 y4 y5 y6 y7) (match_Variant.l0 (k + 1) y0 y1 y2 y3 y4 y5 y6 y7))
  | 0 => fun _ _ _ _ _ _ _ _ r h => by simp [match_Variant.l0] at h
  | k + 1 => by
    have ih0 := match_Variant.mono_l k
    · intro y0 y1 y2 y3 y4 y5 y6 y7
      unfold match_Variant.l0
      repeat' first
      | (with_reducible exact ih0 _ _ _ _ _ _ _ _)
      | (with_reducible exact slices_Equal_int_int.mono _ _ _)
      | (with_reducible exact LeO.refl _)
      | (with_reducible exact LeO.none _)
      | (with_reducible refine LeO.ite ?_ ?_)
      | (with_reducible refine LeO.bind ?_ (fun _ => ?_))
      | exact ih0 _ _ _ _ _ _ _ _
      | exact slices_Equal_int_int.mono _ _ _
      | exact LeO.none _
      | refine LeO.ite ?_ ?_
      | refine LeO.bind ?_ (fun _ => ?_)
theorem match_Variant.mono : ∀ a0 a1 a2 a3 a4 k, LeO (match_Variant.f k a0 a1 a2 a3 a4) (match_Variant.f (k + 1) a0 a1 a2 a3 a4) := by
  intro a0 a1 a2 a3 a4 k
  have ih0 := match_Variant.mono_l k
  unfold match_Variant.f
  repeat' first
      | (with_reducible exact ih0 _ _ _ _ _ _ _ _)
      | (with_reducible exact slices_Equal_int_int.mono _ _ _)
      | (with_reducible exact LeO.refl _)
      | (with_reducible exact LeO.none _)
      | (with_reducible refine LeO.ite ?_ ?_)
      | (with_reducible refine LeO.bind ?_ (fun _ => ?_))
      | exact ih0 _ _ _ _ _ _ _ _
      | exact slices_Equal_int_int.mono _ _ _
      | exact LeO.none _
      | refine LeO.ite ?_ ?_
      | refine LeO.bind ?_ (fun _ => ?_)
def match_Variant.T7 : Bool × List (List Nat × List Nat) := (true, [([], []), ([0], [0]), ([], []), ([2], [2]), ([1, 3], [1, 3]), ([4], [4]), ([], []), ([6], [6]), ([], []), ([8], [8]), ([7, 9], [7, 9]), ([10, 5], [10]), ([5, 11, 0, 1, 2, 3, 4, 5], [5]), ([11, 12, 0, 1, 2, 3, 4, 5, 6, 7, 8, 9, 10, 11, 12], [11])])
def match_Variant.B7 : List Nat := [0, 1, 0, 4, 15, 31, 0, 64, 0, 256, 960, 2047, 4095, 8191]
theorem match_Variant.tab7 : rtab .any (opsOf Tryd.f28 7) = match_Variant.T7 := by kernel_rfl
theorem match_Variant.bits7 : waitsOk match_Variant.T7.2 match_Variant.B7 = true := by kernel_rfl
def match_Variant.T8 : Bool × List (List Nat × List Nat) := (true, [([], []), ([0], [0]), ([1], [1]), ([], []), ([3], [3]), ([4], [4]), ([2, 5], [2, 5]), ([6, 6], [6]), ([7], [7]), ([8, 7], [7, 8]), ([9, 7], [7, 9]), ([7], [7]), ([11, 7], [7, 11]), ([12, 7], [7, 12]), ([10, 13, 7, 7], [7, 10, 13]), ([7, 14], [7, 14]), ([15, 14, 0, 1, 2, 3, 4, 5, 6, 7, 8, 9, 10, 11, 12, 13, 14, 15], [15])])
def match_Variant.B8 : List Nat := [0, 1, 3, 0, 8, 24, 63, 127, 255, 511, 1023, 255, 2303, 6399, 16383, 32767, 65535]
theorem match_Variant.tab8 : rtab .any (opsOf Tryd.f28 8) = match_Variant.T8 := by kernel_rfl
theorem match_Variant.bits8 : waitsOk match_Variant.T8.2 match_Variant.B8 = true := by kernel_rfl
set_option maxHeartbeats 8000000 in
set_option maxRecDepth 100000 in
theorem match_Variant.calls (k : Nat) (A0 : Option Addr) (c0 : Nat) (l0 : List (S85)) (P1_0_ : Nat → Prop) (A1_0 : Option Addr) (c1_0 : Nat) (l1_0 : List Int) (P1_1_ : Nat → Prop) (A1_1 : Option Addr) (c1_1 : Nat) (l1_1 : List Int) (P2_0_ : Nat → Prop) (A2_0 : Option Addr) (c2_0 : Nat) (l2_0 : List Int) (P2_1_ : Nat → Prop) (A2_1 : Option Addr) (c2_1 : Nat) (l2_1 : List Int) (r : Bool) (w : World) (hr0 : Kd.C k85 w A0 l0.length l0) (hc0 : l0.length ≤ c0) (hs1_0 : Kd.V (Kd.int .i64) 3 w w.heap.size (fun k_ => P1_0_ k_) (.slice A1_0 l1_0.length c1_0) l1_0) (hs1_1 : Kd.V (Kd.int .i64) 3 w w.heap.size (fun k_ => P1_1_ k_) (.slice A1_1 l1_1.length c1_1) l1_1) (hs2_0 : Kd.V (Kd.int .i64) 3 w w.heap.size (fun k_ => P2_0_ k_) (.slice A2_0 l2_0.length c2_0) l2_0) (hs2_1 : Kd.V (Kd.int .i64) 3 w w.heap.size (fun k_ => P2_1_ k_) (.slice A2_1 l2_1.length c2_1) l2_1) (h : match_Variant.f k l0 l1_0 l1_1 l2_0 l2_1 = some r) (hT : Tabs w) :
    Calls Tryd.prog 28 #[.slice A0 l0.length c0, .agg #[.slice A1_0 l1_0.length c1_0, .slice A1_1 l1_1.length c1_1], .agg #[.slice A2_0 l2_0.length c2_0, .slice A2_1 l2_1.length c2_1]] w fun e w' => e = .returned (.bool r) ∧ Below w.heap.size w w' := by
  have HT := Aside0.mk hT
  clear hT
  have hu46 := Tryd.underlying46
  have HR0 := Aside0.mk hr0
  have HC0 := Aside0.mk hc0
  clear hr0 hc0
  have HO1_0 := Aside0.mk (show Kd.V (Kd.int .i64) 3 w w.heap.size (fun k_ => ((P1_0_ k_ ∨ P1_1_ k_ ∨ P2_0_ k_ ∨ P2_1_ k_) ∨ w.heap.size ≤ k_)) (.slice A1_0 l1_0.length c1_0) l1_0 from Kd.V_mono hs1_0 (fun k_ hk => .inl (.inl hk)))
  have HO1_1 := Aside0.mk (show Kd.V (Kd.int .i64) 3 w w.heap.size (fun k_ => ((P1_0_ k_ ∨ P1_1_ k_ ∨ P2_0_ k_ ∨ P2_1_ k_) ∨ w.heap.size ≤ k_)) (.slice A1_1 l1_1.length c1_1) l1_1 from Kd.V_mono hs1_1 (fun k_ hk => .inl (.inr (.inl hk))))
  have HO2_0 := Aside0.mk (show Kd.V (Kd.int .i64) 3 w w.heap.size (fun k_ => ((P1_0_ k_ ∨ P1_1_ k_ ∨ P2_0_ k_ ∨ P2_1_ k_) ∨ w.heap.size ≤ k_)) (.slice A2_0 l2_0.length c2_0) l2_0 from Kd.V_mono hs2_0 (fun k_ hk => .inl (.inr (.inr (.inl hk)))))
  have HO2_1 := Aside0.mk (show Kd.V (Kd.int .i64) 3 w w.heap.size (fun k_ => ((P1_0_ k_ ∨ P1_1_ k_ ∨ P2_0_ k_ ∨ P2_1_ k_) ∨ w.heap.size ≤ k_)) (.slice A2_1 l2_1.length c2_1) l2_1 from Kd.V_mono hs2_1 (fun k_ hk => .inl (.inr (.inr (.inr hk)))))
  have HB := Aside0.mk (Below.refl w.heap.size w)
  have H : ((some (([l1_0, l1_1, l2_0, l2_1] : List (List Int)) : List (List Int))).bind fun y361 => (match_Variant.l0 k l0 y361 (y361.length : Int) 0 l1_0 l1_1 l2_0 l2_1)) = some r := h
  clear h
  obtain ⟨y361, hy361⟩ : ∃ y_ : List (List Int), y_ = (([l1_0, l1_1, l2_0, l2_1] : List (List Int))) := ⟨_, rfl⟩
  replace H : (match_Variant.l0 k l0 y361 (y361.length : Int) 0 l1_0 l1_1 l2_0 l2_1) = some r := by first | (rw [hy361]; with_reducible exact H) | (have H2_ := (Option.bind_some _ _).symm.trans H; rw [hy361]; with_reducible exact H2_) | (have H2_ := (Option.bind_some _ _).symm.trans H; with_reducible exact H2_) | with_reducible exact H | (rw [hy361]; exact H) | exact H
  have Ny361 := Aside0.mk hy361
  clear hy361
  have H' := Aside0.mk H
  clear H
  go_enter Tryd.func28, Tryd.ntmps28
  go_wp2_with (first | ((with_reducible refine gate_dst (N := 4) rfl ?_); refine box_event ?hg (N := 4) ?hd (cs := #[.slice A1_0 l1_0.length c1_0, .slice A1_1 l1_1.length c1_1]) (t := 46) ?hr ?_; (case hd => rfl); (case hg => rfl); (case hr => first | (go_simp; done) | (go_simp; rfl)); intro gb359 hg w4 hbox hb; have n0_ := Aside0.mk (Kd.V_below (Kd.V_elderB (by (with_reducible repeat (first | apply Kd.V_alloc | apply Kd.V_drewN | apply Kd.V_drew)); exact HO1_0.out) gb359 (Nat.le_of_eq hg.symm)) hb); have n1_ := Aside0.mk (Kd.V_below (Kd.V_elderB (by (with_reducible repeat (first | apply Kd.V_alloc | apply Kd.V_drewN | apply Kd.V_drew)); exact HO1_1.out) gb359 (Nat.le_of_eq hg.symm)) hb); have n2_ := Aside0.mk (Kd.V_below (Kd.V_elderB (by (with_reducible repeat (first | apply Kd.V_alloc | apply Kd.V_drewN | apply Kd.V_drew)); exact HO2_0.out) gb359 (Nat.le_of_eq hg.symm)) hb); have n3_ := Aside0.mk (Kd.V_below (Kd.V_elderB (by (with_reducible repeat (first | apply Kd.V_alloc | apply Kd.V_drewN | apply Kd.V_drew)); exact HO2_1.out) gb359 (Nat.le_of_eq hg.symm)) hb); have n4_ := Aside0.mk (below_step (by repeat (first | (with_reducible first | exact HB.out | apply below_alloc | apply pw_below_drewN | apply below_drew1) | exact HB.out)) hb); have n5_ := Aside0.mk (hbox); have n6_ := Aside0.mk ((by rw [hg]; exact (below_size (by repeat (first | (with_reducible first | exact HB.out | apply below_alloc | apply pw_below_drewN | apply below_drew1) | exact HB.out))) : w.heap.size ≤ gb359)); have n7_ := Aside0.mk ((by rw [hg]; exact (below_size (by repeat (first | (with_reducible first | exact HB.out | apply below_alloc | apply pw_below_drewN | apply below_drew1) | exact HB.out))) : w.heap.size ≤ gb359)); clear HO1_0; clear HO1_1; clear HO2_0; clear HO2_1; clear HB; have HO1_0 := n0_; have HO1_1 := n1_; have HO2_0 := n2_; have HO2_1 := n3_; have HB := n4_; have BK359 := n5_; have GW359 := n6_; have GE359 := n7_; clear n0_ n1_ n2_ n3_ n4_ n5_ n6_ n7_; clear hb hbox hg) | ((with_reducible refine gate_dst (N := 5) rfl ?_); refine box_event ?hg (N := 5) ?hd (cs := #[.slice A2_0 l2_0.length c2_0, .slice A2_1 l2_1.length c2_1]) (t := 46) ?hr ?_; (case hd => rfl); (case hg => rfl); (case hr => first | (go_simp; done) | (go_simp; rfl)); intro gb360 hg w5 hbox hb; have n0_ := Aside0.mk (Kd.V_below (Kd.V_elderB (by (with_reducible repeat (first | apply Kd.V_alloc | apply Kd.V_drewN | apply Kd.V_drew)); exact HO1_0.out) gb360 (Nat.le_of_eq hg.symm)) hb); have n1_ := Aside0.mk (Kd.V_below (Kd.V_elderB (by (with_reducible repeat (first | apply Kd.V_alloc | apply Kd.V_drewN | apply Kd.V_drew)); exact HO1_1.out) gb360 (Nat.le_of_eq hg.symm)) hb); have n2_ := Aside0.mk (Kd.V_below (Kd.V_elderB (by (with_reducible repeat (first | apply Kd.V_alloc | apply Kd.V_drewN | apply Kd.V_drew)); exact HO2_0.out) gb360 (Nat.le_of_eq hg.symm)) hb); have n3_ := Aside0.mk (Kd.V_below (Kd.V_elderB (by (with_reducible repeat (first | apply Kd.V_alloc | apply Kd.V_drewN | apply Kd.V_drew)); exact HO2_1.out) gb360 (Nat.le_of_eq hg.symm)) hb); have n4_ := Aside0.mk (blk_below (g := gb359) (o := .cells #[.slice A1_0 l1_0.length c1_0, .slice A1_1 l1_1.length c1_1] 46 (0, 0)) (by (with_reducible repeat (first | refine blk_drewN ?_ _ | refine blk_drew ?_ | refine blk_alloc ?_ _)); exact BK359.out) hb); have n5_ := Aside0.mk (below_step (by repeat (first | (with_reducible first | exact HB.out | apply below_alloc | apply pw_below_drewN | apply below_drew1 | refine below_set ?_ GE359.out) | exact HB.out)) hb); have n6_ := Aside0.mk (hbox); have n7_ := Aside0.mk ((by rw [hg]; exact (below_size (by repeat (first | (with_reducible first | exact HB.out | apply below_alloc | apply pw_below_drewN | apply below_drew1 | refine below_set ?_ GE359.out) | exact HB.out))) : w.heap.size ≤ gb360)); have n8_ := Aside0.mk ((by rw [hg]; exact (below_size (by repeat (first | (with_reducible first | exact HB.out | apply below_alloc | apply pw_below_drewN | apply below_drew1 | refine below_set ?_ GE359.out) | exact HB.out))) : w.heap.size ≤ gb360)); have n9_ := Aside0.mk ((by rw [hg]; exact Nat.ne_of_lt (blk_lt (g := gb359) (o := .cells #[.slice A1_0 l1_0.length c1_0, .slice A1_1 l1_1.length c1_1] 46 (0, 0)) (by (with_reducible repeat (first | refine blk_drewN ?_ _ | refine blk_drew ?_ | refine blk_alloc ?_ _)); exact BK359.out)) : gb359 ≠ gb360)); have n10_ := Aside0.mk ((by rw [hg]; exact Nat.ne_of_gt (blk_lt (g := gb359) (o := .cells #[.slice A1_0 l1_0.length c1_0, .slice A1_1 l1_1.length c1_1] 46 (0, 0)) (by (with_reducible repeat (first | refine blk_drewN ?_ _ | refine blk_drew ?_ | refine blk_alloc ?_ _)); exact BK359.out)) : gb360 ≠ gb359)); clear HO1_0; clear HO1_1; clear HO2_0; clear HO2_1; clear BK359; clear HB; have HO1_0 := n0_; have HO1_1 := n1_; have HO2_0 := n2_; have HO2_1 := n3_; have BK359 := n4_; have HB := n5_; have BK360 := n6_; have GW360 := n7_; have GE360 := n8_; have NB359_360 := n9_; have NB360_359 := n10_; clear n0_ n1_ n2_ n3_ n4_ n5_ n6_ n7_ n8_ n9_ n10_; clear hb hbox hg; have hnb6 := NB359_360.out; have hnc6 := NB360_359.out; have hcz7_0 : w5.cell? ⟨gb359, 0, none⟩ = some (.slice A1_0 l1_0.length c1_0) := (blk_cell BK359.out 0).trans rfl; have hcz7_1 : w5.cell? ⟨gb359, 1, none⟩ = some (.slice A1_1 l1_1.length c1_1) := (blk_cell BK359.out 1).trans rfl; have hfz7_0 := blk_frozen BK359.out 0; have hfz7_1 := blk_frozen BK359.out 1; have hcz8_0 : w5.cell? ⟨gb360, 0, none⟩ = some (.slice A2_0 l2_0.length c2_0) := (blk_cell BK360.out 0).trans rfl; have hcz8_1 : w5.cell? ⟨gb360, 1, none⟩ = some (.slice A2_1 l2_1.length c2_1) := (blk_cell BK360.out 1).trans rfl; have hfz8_0 := blk_frozen BK360.out 0; have hfz8_1 := blk_frozen BK360.out 1) | ((with_reducible refine gate_dst (N := 19) rfl ?_); refine Kd.N_lit (Kd.slice 3 (Kd.int .i64)) _ 23 ?hg (N' := 19) ?hd (xs := ([l1_0, l1_1, l2_0, l2_1] : List (List Int))) (inner := [.slice A1_0 l1_0.length c1_0, .slice A1_1 l1_1.length c1_1, .slice A2_0 l2_0.length c2_0, .slice A2_1 l2_1.length c2_1]) (ok := (fun k_ => ((P1_0_ k_ ∨ P1_1_ k_ ∨ P2_0_ k_ ∨ P2_1_ k_) ∨ w.heap.size ≤ k_) ∧ k_ ≠ gb359 ∧ k_ ≠ gb360)) (okp := (fun k_ => ((P1_0_ k_ ∨ P1_1_ k_ ∨ P2_0_ k_ ∨ P2_1_ k_) ∨ w.heap.size ≤ k_) ∧ k_ ≠ gb359 ∧ k_ ≠ gb360)) ?hr ?hp (fun _ hk => hk) ((show ∀ k_, w5.heap.size ≤ k_ → (fun k_ => ((P1_0_ k_ ∨ P1_1_ k_ ∨ P2_0_ k_ ∨ P2_1_ k_) ∨ w.heap.size ≤ k_) ∧ k_ ≠ gb359 ∧ k_ ≠ gb360) k_ from fun k_ hk => ⟨(.inr (Nat.le_trans (below_size (by repeat (first | (with_reducible first | exact HB.out | apply below_alloc | apply pw_below_drewN | apply below_drew1 | refine below_set ?_ GE359.out | refine below_set ?_ GE360.out) | exact HB.out))) hk)), Kd.freshB (g := gb359) (o := .cells #[.slice A1_0 l1_0.length c1_0, .slice A1_1 l1_1.length c1_1] 46 (0, 0)) (by (with_reducible repeat (first | refine blk_drewN ?_ _ | refine blk_drew ?_ | refine blk_alloc ?_ _)); exact BK359.out) k_ hk, Kd.freshB (g := gb360) (o := .cells #[.slice A2_0 l2_0.length c2_0, .slice A2_1 l2_1.length c2_1] 46 (0, 0)) (by (with_reducible repeat (first | refine blk_drewN ?_ _ | refine blk_drew ?_ | refine blk_alloc ?_ _)); exact BK360.out) k_ hk⟩) _ (Nat.le_refl _)) (Below.refl _ _) (Nat.le_refl _) (by simp) ?_; (case hd => rfl); (case hg => rfl); (case hr => first | (go_simp; done) | (go_simp; rfl)); (case hp => exact (Reps.one (show Kd.FK (Kd.slice 3 (Kd.int .i64)) _ _ l1_0 [.slice A1_0 l1_0.length c1_0] from (Kd.FK_slice_mk (Kd.V_reads' (Kd.V_mono (ok' := (fun k_ => ((P1_0_ k_ ∨ P1_1_ k_ ∨ P2_0_ k_ ∨ P2_1_ k_) ∨ w.heap.size ≤ k_) ∧ k_ ≠ gb359 ∧ k_ ≠ gb360)) (HO1_0.out) (fun k_ hk => ⟨hk.1.1, ⟨hk.1.2, hk.2⟩⟩))).2.1 (Kd.V_F (Kd.V_mono (ok' := (fun k_ => ((P1_0_ k_ ∨ P1_1_ k_ ∨ P2_0_ k_ ∨ P2_1_ k_) ∨ w.heap.size ≤ k_) ∧ k_ ≠ gb359 ∧ k_ ≠ gb360)) (HO1_0.out) (fun k_ hk => ⟨hk.1.1, ⟨hk.1.2, hk.2⟩⟩))))) (Reps.one (show Kd.FK (Kd.slice 3 (Kd.int .i64)) _ _ l1_1 [.slice A1_1 l1_1.length c1_1] from (Kd.FK_slice_mk (Kd.V_reads' (Kd.V_mono (ok' := (fun k_ => ((P1_0_ k_ ∨ P1_1_ k_ ∨ P2_0_ k_ ∨ P2_1_ k_) ∨ w.heap.size ≤ k_) ∧ k_ ≠ gb359 ∧ k_ ≠ gb360)) (HO1_1.out) (fun k_ hk => ⟨hk.1.1, ⟨hk.1.2, hk.2⟩⟩))).2.1 (Kd.V_F (Kd.V_mono (ok' := (fun k_ => ((P1_0_ k_ ∨ P1_1_ k_ ∨ P2_0_ k_ ∨ P2_1_ k_) ∨ w.heap.size ≤ k_) ∧ k_ ≠ gb359 ∧ k_ ≠ gb360)) (HO1_1.out) (fun k_ hk => ⟨hk.1.1, ⟨hk.1.2, hk.2⟩⟩))))) (Reps.one (show Kd.FK (Kd.slice 3 (Kd.int .i64)) _ _ l2_0 [.slice A2_0 l2_0.length c2_0] from (Kd.FK_slice_mk (Kd.V_reads' (Kd.V_mono (ok' := (fun k_ => ((P1_0_ k_ ∨ P1_1_ k_ ∨ P2_0_ k_ ∨ P2_1_ k_) ∨ w.heap.size ≤ k_) ∧ k_ ≠ gb359 ∧ k_ ≠ gb360)) (HO2_0.out) (fun k_ hk => ⟨hk.1.1, ⟨hk.1.2, hk.2⟩⟩))).2.1 (Kd.V_F (Kd.V_mono (ok' := (fun k_ => ((P1_0_ k_ ∨ P1_1_ k_ ∨ P2_0_ k_ ∨ P2_1_ k_) ∨ w.heap.size ≤ k_) ∧ k_ ≠ gb359 ∧ k_ ≠ gb360)) (HO2_0.out) (fun k_ hk => ⟨hk.1.1, ⟨hk.1.2, hk.2⟩⟩))))) (Reps.one (show Kd.FK (Kd.slice 3 (Kd.int .i64)) _ _ l2_1 [.slice A2_1 l2_1.length c2_1] from (Kd.FK_slice_mk (Kd.V_reads' (Kd.V_mono (ok' := (fun k_ => ((P1_0_ k_ ∨ P1_1_ k_ ∨ P2_0_ k_ ∨ P2_1_ k_) ∨ w.heap.size ≤ k_) ∧ k_ ≠ gb359 ∧ k_ ≠ gb360)) (HO2_1.out) (fun k_ hk => ⟨hk.1.1, ⟨hk.1.2, hk.2⟩⟩))).2.1 (Kd.V_F (Kd.V_mono (ok' := (fun k_ => ((P1_0_ k_ ∨ P1_1_ k_ ∨ P2_0_ k_ ∨ P2_1_ k_) ∨ w.heap.size ≤ k_) ∧ k_ ≠ gb359 ∧ k_ ≠ gb360)) (HO2_1.out) (fun k_ hk => ⟨hk.1.1, ⟨hk.1.2, hk.2⟩⟩))))) (Reps.none _ _)))))); intro v362 w9 ho10 hb hg_ hnew_; clear hg_ hnew_; (first | rw [← Ny361.out] at ho10 | (simp only [Int.reduceToNat] at ho10; rw [← Ny361.out] at ho10)); have n0_ := Aside0.mk (Kd.V_elder' (by (with_reducible repeat (first | apply Kd.V_alloc | apply Kd.V_drewN | apply Kd.V_drew)); exact HO1_0.out) ((by first | exact Kd.N_base ho10 | exact Kd.S_base ho10)) hb); have n1_ := Aside0.mk (Kd.V_elder' (by (with_reducible repeat (first | apply Kd.V_alloc | apply Kd.V_drewN | apply Kd.V_drew)); exact HO1_1.out) ((by first | exact Kd.N_base ho10 | exact Kd.S_base ho10)) hb); have n2_ := Aside0.mk (Kd.V_elder' (by (with_reducible repeat (first | apply Kd.V_alloc | apply Kd.V_drewN | apply Kd.V_drew)); exact HO2_0.out) ((by first | exact Kd.N_base ho10 | exact Kd.S_base ho10)) hb); have n3_ := Aside0.mk (Kd.V_elder' (by (with_reducible repeat (first | apply Kd.V_alloc | apply Kd.V_drewN | apply Kd.V_drew)); exact HO2_1.out) ((by first | exact Kd.N_base ho10 | exact Kd.S_base ho10)) hb); have n4_ := Aside0.mk (Kd.N_lower ho10 (below_size (by repeat (first | (with_reducible first | exact HB.out | apply below_alloc | apply pw_below_drewN | apply below_drew1 | refine below_set ?_ GE359.out | refine below_set ?_ GE360.out) | exact HB.out)))); have n5_ := Aside0.mk (blk_below (g := gb359) (o := .cells #[.slice A1_0 l1_0.length c1_0, .slice A1_1 l1_1.length c1_1] 46 (0, 0)) (by (with_reducible repeat (first | refine blk_drewN ?_ _ | refine blk_drew ?_ | refine blk_alloc ?_ _)); exact BK359.out) hb); have n6_ := Aside0.mk (blk_below (g := gb360) (o := .cells #[.slice A2_0 l2_0.length c2_0, .slice A2_1 l2_1.length c2_1] 46 (0, 0)) (by (with_reducible repeat (first | refine blk_drewN ?_ _ | refine blk_drew ?_ | refine blk_alloc ?_ _)); exact BK360.out) hb); have n7_ := Aside0.mk (below_step (by repeat (first | (with_reducible first | exact HB.out | apply below_alloc | apply pw_below_drewN | apply below_drew1 | refine below_set ?_ GE359.out | refine below_set ?_ GE360.out) | exact HB.out)) hb); clear HO1_0; clear HO1_1; clear HO2_0; clear HO2_1; clear BK359; clear BK360; clear HB; have HO1_0 := n0_; have HO1_1 := n1_; have HO2_0 := n2_; have HO2_1 := n3_; have HO363 := n4_; have BK359 := n5_; have BK360 := n6_; have HB := n7_; clear n0_ n1_ n2_ n3_ n4_ n5_ n6_ n7_; clear hb ho10; obtain ⟨Ao11, co11, eo11⟩ := Kd.N_slice HO363.out; subst eo11))
  go_loopg [21] k (fun kq v21 w' => ∃ (x21_1 : Int), v21 = .int .i64 x21_1 ∧ Aside0 (match_Variant.l0 kq l0 y361 (y361.length : Int) x21_1 l1_0 l1_1 l2_0 l2_1 = some r) ∧ Aside0 (kq ≤ k) ∧ Aside0 (Kd.N (Kd.slice 3 (Kd.int .i64)) 23 w' w.heap.size (fun k_ => ((P1_0_ k_ ∨ P1_1_ k_ ∨ P2_0_ k_ ∨ P2_1_ k_) ∨ w.heap.size ≤ k_) ∧ k_ ≠ gb359 ∧ k_ ≠ gb360) (.slice Ao11 y361.length co11) y361) ∧ Aside0 (Kd.V (Kd.int .i64) 3 w' w.heap.size (fun k_ => ((P1_0_ k_ ∨ P1_1_ k_ ∨ P2_0_ k_ ∨ P2_1_ k_) ∨ w.heap.size ≤ k_) ∧ some k_ ≠ ((.slice Ao11 y361.length co11) : Value).ownBlock ∧ k_ ≠ gb359 ∧ k_ ≠ gb360) (.slice A1_0 l1_0.length c1_0) l1_0) ∧ Aside0 (Kd.V (Kd.int .i64) 3 w' w.heap.size (fun k_ => ((P1_0_ k_ ∨ P1_1_ k_ ∨ P2_0_ k_ ∨ P2_1_ k_) ∨ w.heap.size ≤ k_) ∧ some k_ ≠ ((.slice Ao11 y361.length co11) : Value).ownBlock ∧ k_ ≠ gb359 ∧ k_ ≠ gb360) (.slice A1_1 l1_1.length c1_1) l1_1) ∧ Aside0 (Kd.V (Kd.int .i64) 3 w' w.heap.size (fun k_ => ((P1_0_ k_ ∨ P1_1_ k_ ∨ P2_0_ k_ ∨ P2_1_ k_) ∨ w.heap.size ≤ k_) ∧ some k_ ≠ ((.slice Ao11 y361.length co11) : Value).ownBlock ∧ k_ ≠ gb359 ∧ k_ ≠ gb360) (.slice A2_0 l2_0.length c2_0) l2_0) ∧ Aside0 (Kd.V (Kd.int .i64) 3 w' w.heap.size (fun k_ => ((P1_0_ k_ ∨ P1_1_ k_ ∨ P2_0_ k_ ∨ P2_1_ k_) ∨ w.heap.size ≤ k_) ∧ some k_ ≠ ((.slice Ao11 y361.length co11) : Value).ownBlock ∧ k_ ≠ gb359 ∧ k_ ≠ gb360) (.slice A2_1 l2_1.length c2_1) l2_1) ∧ Aside0 (w'.heap[gb359]? = some (.cells #[(.slice A1_0 l1_0.length c1_0), (.slice A1_1 l1_1.length c1_1)] 46 (0, 0))) ∧ Aside0 (w'.heap[gb360]? = some (.cells #[(.slice A2_0 l2_0.length c2_0), (.slice A2_1 l2_1.length c2_1)] 46 (0, 0))) ∧ Aside0 (Below w.heap.size w w'))
  case atStart => exact ⟨(0), (by first | rfl | (simp; done) | (simp [*]; done)), H', ⟨Nat.le_refl _⟩, ⟨by (with_reducible repeat (first | apply Kd.N_alloc | apply Kd.N_drewN | apply Kd.N_drew)); exact HO363.out⟩, ⟨by (with_reducible repeat (first | apply Kd.V_alloc | apply Kd.V_drewN | apply Kd.V_drew)); exact Kd.V_mono HO1_0.out (fun _ hk => by first | exact ⟨hk.1.1.1, ⟨hk.2, ⟨hk.1.1.2, hk.1.2⟩⟩⟩ | grind)⟩, ⟨by (with_reducible repeat (first | apply Kd.V_alloc | apply Kd.V_drewN | apply Kd.V_drew)); exact Kd.V_mono HO1_1.out (fun _ hk => by first | exact ⟨hk.1.1.1, ⟨hk.2, ⟨hk.1.1.2, hk.1.2⟩⟩⟩ | grind)⟩, ⟨by (with_reducible repeat (first | apply Kd.V_alloc | apply Kd.V_drewN | apply Kd.V_drew)); exact Kd.V_mono HO2_0.out (fun _ hk => by first | exact ⟨hk.1.1.1, ⟨hk.2, ⟨hk.1.1.2, hk.1.2⟩⟩⟩ | grind)⟩, ⟨by (with_reducible repeat (first | apply Kd.V_alloc | apply Kd.V_drewN | apply Kd.V_drew)); exact Kd.V_mono HO2_1.out (fun _ hk => by first | exact ⟨hk.1.1.1, ⟨hk.2, ⟨hk.1.1.2, hk.1.2⟩⟩⟩ | grind)⟩, ⟨by (with_reducible repeat (first | refine blk_drewN ?_ _ | refine blk_drew ?_ | refine blk_alloc ?_ _)); exact BK359.out⟩, ⟨by (with_reducible repeat (first | refine blk_drewN ?_ _ | refine blk_drew ?_ | refine blk_alloc ?_ _)); exact BK360.out⟩, ⟨by repeat (first | (with_reducible first | exact HB.out | apply below_alloc | apply pw_below_drewN | apply below_drew1 | refine below_set ?_ GE359.out | refine below_set ?_ GE360.out) | exact HB.out)⟩⟩
  case round =>
    clear H'
    try clear c1
    try clear c2
    try clear p2
    try clear c6
    try clear hcz7_0
    try clear hcz7_1
    try clear hcz8_0
    try clear hcz8_1
    try clear hfz7_0
    try clear hfz7_1
    try clear hfz8_0
    try clear hfz8_1
    obtain ⟨x21_1, rfl, HA, HK1, HO_19, HO_360000, HO_360001, HO_361000, HO_361001, BK359, BK360, HB⟩ := hrel
    cases gk with
    | zero => exact absurd HA.out (by simp [match_Variant.l0])
    | succ k1 =>
      have H := HA.out
      clear HA
      simp only [match_Variant.l0] at H
      by_cases c12 : x21_1 < (y361.length : Int)
      · rw [if_pos c12] at H
        have c12b0 : decide (x21_1 < (y361.length : Int)) = true := decide_eq_true c12
        clear c12
        by_cases c13 : 0 ≤ x21_1
        · rw [if_pos c13] at H
          have c13b0 : decide (0 ≤ x21_1) = true := decide_eq_true c13
          clear c13
          by_cases c14 : x21_1 < (y361.length : Int)
          · rw [if_pos c14] at H
            have c14b0 : decide (x21_1 < (y361.length : Int)) = true := decide_eq_true c14
            clear c14
            replace H := Option.bind_eq_some_iff.mp H
            obtain ⟨t365, A150, H⟩ := H
            replace H : (if t365 = 0 then (match_Variant.l0 k1 l0 y361 (y361.length : Int) (wrap64 (x21_1 + 1)) l1_0 l1_1 l2_0 l2_1) else (some false)) = some r := H
            have A15 := Aside0.mk A150
            clear A150
            by_cases c16 : t365 = 0
            · rw [if_pos c16] at H
              have c16b0 : (t365 == 0) = true := beq_iff_eq.mpr c16
              have c16b1 : (t365 != 0) = false := bne_eq_false_iff_eq.mpr c16
              clear c16
              have H' := Aside0.mk H
              clear H
              have p364 : 0 ≤ (x21_1 : Int) := of_decide_eq_true (by first | (with_reducible assumption) | assumption)
              have q364 : x21_1 < (y361.length : Int) := of_decide_eq_true (by first | (with_reducible assumption) | assumption)
              obtain ⟨ad364, A364_0, c364_0, e364, hx364_0, hl364_0, hi364_0⟩ := at_L3 (Kd.N_reads' HO_19.out).2.2 x21_1 p364 q364
              cases e364
              obtain ⟨ce364, hce364, hMe364, hcc364⟩ := Kd.N_get HO_19.out [] x21_1 p364 (by first | exact q364 | exact of_decide_eq_true (by first | (with_reducible assumption) | assumption) | (have e_ := (Kd.N_reads' HO_19.out).1; omega))
              obtain ⟨ua364_0, uc364_0, rfl, ul364_0, ge364_0⟩ := Kd.FK_slice_open hMe364
              have hv364_0 := hcc364 0 _ rfl
              rw [Nat.add_zero, show ((Kd.slice 3 (Kd.int .i64))).sz = 1 from rfl, Nat.mul_one] at hv364_0
              replace hv364_0 := Option.some.inj (hv364_0.symm.trans hx364_0)
              injection hv364_0 with hva_ hvn_ hvc_
              rw [hva_] at ge364_0
              rw [hvc_] at ul364_0
              have HL364_0 := Aside0.mk (show Kd.V (Kd.int .i64) 3 _ w.heap.size _ _ (rd_L3 y361 x21_1) from Kd.V_mk ul364_0 ge364_0)
              clear hva_ hvn_ hvc_ ge364_0 ul364_0
              clear hcc364 hce364
              have HR364_0 := Aside0.mk hi364_0
              have HC364_0 := Aside0.mk hl364_0
              clear hi364_0 hl364_0
              replace p364 := eq_true p364
              replace q364 := eq_true q364
              go_wp2_with (first | ((with_reducible refine gate_callee (f := 29) rfl ?_); refine goesL_ (some 27) rfl rfl Tryd.func29 (by kernel_rfl) rfl #[.slice A0 l0.length c0, .slice A364_0 (rd_L3 y361 x21_1).length c364_0] rfl (by (try simp only [List.map_toArray, List.map_cons, List.map_nil]); first | done | rfl | (simp only [List.length_drop, List.length_take]; rfl)) ?_; (with_reducible refine (term_Check.calls _ _ l0 _ _ (rd_L3 y361 x21_1) t365 _ ?side1 ?side2 ?side3 ?side4 A15.out ?sideT).mono ?_); (case sideT => (first | exact Tabs.below HT.out (Below.refl _ _) | (refine Tabs.below HT.out ?_; repeat (first | (with_reducible first | exact HB.out | exact Below.refl _ _ | apply below_alloc | apply pw_below_drewN | apply below_drew1) | exact HB.out)))); (case side1 => repeat (first | exact (Kd.C_below HR0.out HB.out) | (with_reducible refine Kd.C_alloc ?_ _) | (with_reducible refine Kd.C_drewN ?_ _) | (with_reducible refine Kd.C_drew ?_))); (case side2 => exact HC0.out); (case side3 => repeat (first | exact (by repeat (first | (with_reducible exact HR364_0.out) | (with_reducible refine Kd.C_alloc ?_ _) | (with_reducible refine Kd.C_drewN ?_ _) | (with_reducible refine Kd.C_drew ?_) | exact HR364_0.out)) | (with_reducible refine Kd.C_alloc ?_ _) | (with_reducible refine Kd.C_drewN ?_ _) | (with_reducible refine Kd.C_drew ?_))); (case side4 => exact HC364_0.out); rintro e w17 ⟨rfl, hb⟩; refine ⟨_, rfl, ?_⟩; have n0_ := Aside0.mk (Kd.N_below (by (with_reducible repeat (first | apply Kd.N_alloc | apply Kd.N_drewN | apply Kd.N_drew)); exact HO_19.out) hb); have n1_ := Aside0.mk (Kd.V_below (by (with_reducible repeat (first | apply Kd.V_alloc | apply Kd.V_drewN | apply Kd.V_drew)); exact HO_360000.out) hb); have n2_ := Aside0.mk (Kd.V_below (by (with_reducible repeat (first | apply Kd.V_alloc | apply Kd.V_drewN | apply Kd.V_drew)); exact HO_360001.out) hb); have n3_ := Aside0.mk (Kd.V_below (by (with_reducible repeat (first | apply Kd.V_alloc | apply Kd.V_drewN | apply Kd.V_drew)); exact HO_361000.out) hb); have n4_ := Aside0.mk (Kd.V_below (by (with_reducible repeat (first | apply Kd.V_alloc | apply Kd.V_drewN | apply Kd.V_drew)); exact HO_361001.out) hb); have n5_ := Aside0.mk (Kd.V_below (by (with_reducible repeat (first | apply Kd.V_alloc | apply Kd.V_drewN | apply Kd.V_drew)); exact HL364_0.out) hb); have n6_ := Aside0.mk (blk_below (g := gb359) (o := .cells #[.slice A1_0 l1_0.length c1_0, .slice A1_1 l1_1.length c1_1] 46 (0, 0)) (by (with_reducible repeat (first | refine blk_drewN ?_ _ | refine blk_drew ?_ | refine blk_alloc ?_ _)); exact BK359.out) hb); have n7_ := Aside0.mk (blk_below (g := gb360) (o := .cells #[.slice A2_0 l2_0.length c2_0, .slice A2_1 l2_1.length c2_1] 46 (0, 0)) (by (with_reducible repeat (first | refine blk_drewN ?_ _ | refine blk_drew ?_ | refine blk_alloc ?_ _)); exact BK360.out) hb); have n8_ := Aside0.mk (Kd.C_below (by repeat (first | (with_reducible exact HR364_0.out) | (with_reducible refine Kd.C_alloc ?_ _) | (with_reducible refine Kd.C_drewN ?_ _) | (with_reducible refine Kd.C_drew ?_) | exact HR364_0.out)) hb); have n9_ := Aside0.mk (below_step (by repeat (first | (with_reducible first | exact HB.out | apply below_alloc | apply pw_below_drewN | apply below_drew1 | refine below_set ?_ GE359.out | refine below_set ?_ GE360.out) | exact HB.out)) hb); clear HO_19; clear HO_360000; clear HO_360001; clear HO_361000; clear HO_361001; clear HL364_0; clear BK359; clear BK360; clear HR364_0; clear HB; have HO_19 := n0_; have HO_360000 := n1_; have HO_360001 := n2_; have HO_361000 := n3_; have HO_361001 := n4_; have HL364_0 := n5_; have BK359 := n6_; have BK360 := n7_; have HR364_0 := n8_; have HB := n9_; clear n0_ n1_ n2_ n3_ n4_ n5_ n6_ n7_ n8_ n9_; (try clear hb); (try clear hb2); (try clear hk); (try clear hi)))
              go_roundg k1
              case measure => have := HK1.out; omega
              case rel => exact ⟨(wrap64 (x21_1 + 1)), (by first | rfl | (simp; done) | (simp [*]; done)), H', ⟨by have := HK1.out; omega⟩, ⟨by (with_reducible repeat (first | apply Kd.N_alloc | apply Kd.N_drewN | apply Kd.N_drew)); exact HO_19.out⟩, ⟨by (with_reducible repeat (first | apply Kd.V_alloc | apply Kd.V_drewN | apply Kd.V_drew)); exact HO_360000.out⟩, ⟨by (with_reducible repeat (first | apply Kd.V_alloc | apply Kd.V_drewN | apply Kd.V_drew)); exact HO_360001.out⟩, ⟨by (with_reducible repeat (first | apply Kd.V_alloc | apply Kd.V_drewN | apply Kd.V_drew)); exact HO_361000.out⟩, ⟨by (with_reducible repeat (first | apply Kd.V_alloc | apply Kd.V_drewN | apply Kd.V_drew)); exact HO_361001.out⟩, ⟨by (with_reducible repeat (first | refine blk_drewN ?_ _ | refine blk_drew ?_ | refine blk_alloc ?_ _)); exact BK359.out⟩, ⟨by (with_reducible repeat (first | refine blk_drewN ?_ _ | refine blk_drew ?_ | refine blk_alloc ?_ _)); exact BK360.out⟩, ⟨by repeat (first | (with_reducible first | exact HB.out | apply below_alloc | apply pw_below_drewN | apply below_drew1 | refine below_set ?_ GE359.out | refine below_set ?_ GE360.out) | exact HB.out)⟩⟩
            · rw [if_neg c16] at H
              have c16b0 : (t365 == 0) = false := beq_eq_false_iff_ne.mpr c16
              have c16b1 : (t365 != 0) = true := bne_iff_ne.mpr c16
              obtain rfl := Option.some.inj H
              have p364 : 0 ≤ (x21_1 : Int) := of_decide_eq_true (by first | (with_reducible assumption) | assumption)
              have q364 : x21_1 < (y361.length : Int) := of_decide_eq_true (by first | (with_reducible assumption) | assumption)
              obtain ⟨ad364, A364_0, c364_0, e364, hx364_0, hl364_0, hi364_0⟩ := at_L3 (Kd.N_reads' HO_19.out).2.2 x21_1 p364 q364
              cases e364
              obtain ⟨ce364, hce364, hMe364, hcc364⟩ := Kd.N_get HO_19.out [] x21_1 p364 (by first | exact q364 | exact of_decide_eq_true (by first | (with_reducible assumption) | assumption) | (have e_ := (Kd.N_reads' HO_19.out).1; omega))
              obtain ⟨ua364_0, uc364_0, rfl, ul364_0, ge364_0⟩ := Kd.FK_slice_open hMe364
              have hv364_0 := hcc364 0 _ rfl
              rw [Nat.add_zero, show ((Kd.slice 3 (Kd.int .i64))).sz = 1 from rfl, Nat.mul_one] at hv364_0
              replace hv364_0 := Option.some.inj (hv364_0.symm.trans hx364_0)
              injection hv364_0 with hva_ hvn_ hvc_
              rw [hva_] at ge364_0
              rw [hvc_] at ul364_0
              have HL364_0 := Aside0.mk (show Kd.V (Kd.int .i64) 3 _ w.heap.size _ _ (rd_L3 y361 x21_1) from Kd.V_mk ul364_0 ge364_0)
              clear hva_ hvn_ hvc_ ge364_0 ul364_0
              clear hcc364 hce364
              have HR364_0 := Aside0.mk hi364_0
              have HC364_0 := Aside0.mk hl364_0
              clear hi364_0 hl364_0
              replace p364 := eq_true p364
              replace q364 := eq_true q364
              go_wp2_with (first | ((with_reducible refine gate_callee (f := 29) rfl ?_); refine goesL_ (some 27) rfl rfl Tryd.func29 (by kernel_rfl) rfl #[.slice A0 l0.length c0, .slice A364_0 (rd_L3 y361 x21_1).length c364_0] rfl (by (try simp only [List.map_toArray, List.map_cons, List.map_nil]); first | done | rfl | (simp only [List.length_drop, List.length_take]; rfl)) ?_; (with_reducible refine (term_Check.calls _ _ l0 _ _ (rd_L3 y361 x21_1) t365 _ ?side1 ?side2 ?side3 ?side4 A15.out ?sideT).mono ?_); (case sideT => (first | exact Tabs.below HT.out (Below.refl _ _) | (refine Tabs.below HT.out ?_; repeat (first | (with_reducible first | exact HB.out | exact Below.refl _ _ | apply below_alloc | apply pw_below_drewN | apply below_drew1) | exact HB.out)))); (case side1 => repeat (first | exact (Kd.C_below HR0.out HB.out) | (with_reducible refine Kd.C_alloc ?_ _) | (with_reducible refine Kd.C_drewN ?_ _) | (with_reducible refine Kd.C_drew ?_))); (case side2 => exact HC0.out); (case side3 => repeat (first | exact (by repeat (first | (with_reducible exact HR364_0.out) | (with_reducible refine Kd.C_alloc ?_ _) | (with_reducible refine Kd.C_drewN ?_ _) | (with_reducible refine Kd.C_drew ?_) | exact HR364_0.out)) | (with_reducible refine Kd.C_alloc ?_ _) | (with_reducible refine Kd.C_drewN ?_ _) | (with_reducible refine Kd.C_drew ?_))); (case side4 => exact HC364_0.out); rintro e w18 ⟨rfl, hb⟩; refine ⟨_, rfl, ?_⟩; have n0_ := Aside0.mk (Kd.N_below (by (with_reducible repeat (first | apply Kd.N_alloc | apply Kd.N_drewN | apply Kd.N_drew)); exact HO_19.out) hb); have n1_ := Aside0.mk (Kd.V_below (by (with_reducible repeat (first | apply Kd.V_alloc | apply Kd.V_drewN | apply Kd.V_drew)); exact HO_360000.out) hb); have n2_ := Aside0.mk (Kd.V_below (by (with_reducible repeat (first | apply Kd.V_alloc | apply Kd.V_drewN | apply Kd.V_drew)); exact HO_360001.out) hb); have n3_ := Aside0.mk (Kd.V_below (by (with_reducible repeat (first | apply Kd.V_alloc | apply Kd.V_drewN | apply Kd.V_drew)); exact HO_361000.out) hb); have n4_ := Aside0.mk (Kd.V_below (by (with_reducible repeat (first | apply Kd.V_alloc | apply Kd.V_drewN | apply Kd.V_drew)); exact HO_361001.out) hb); have n5_ := Aside0.mk (Kd.V_below (by (with_reducible repeat (first | apply Kd.V_alloc | apply Kd.V_drewN | apply Kd.V_drew)); exact HL364_0.out) hb); have n6_ := Aside0.mk (blk_below (g := gb359) (o := .cells #[.slice A1_0 l1_0.length c1_0, .slice A1_1 l1_1.length c1_1] 46 (0, 0)) (by (with_reducible repeat (first | refine blk_drewN ?_ _ | refine blk_drew ?_ | refine blk_alloc ?_ _)); exact BK359.out) hb); have n7_ := Aside0.mk (blk_below (g := gb360) (o := .cells #[.slice A2_0 l2_0.length c2_0, .slice A2_1 l2_1.length c2_1] 46 (0, 0)) (by (with_reducible repeat (first | refine blk_drewN ?_ _ | refine blk_drew ?_ | refine blk_alloc ?_ _)); exact BK360.out) hb); have n8_ := Aside0.mk (Kd.C_below (by repeat (first | (with_reducible exact HR364_0.out) | (with_reducible refine Kd.C_alloc ?_ _) | (with_reducible refine Kd.C_drewN ?_ _) | (with_reducible refine Kd.C_drew ?_) | exact HR364_0.out)) hb); have n9_ := Aside0.mk (below_step (by repeat (first | (with_reducible first | exact HB.out | apply below_alloc | apply pw_below_drewN | apply below_drew1 | refine below_set ?_ GE359.out | refine below_set ?_ GE360.out) | exact HB.out)) hb); clear HO_19; clear HO_360000; clear HO_360001; clear HO_361000; clear HO_361001; clear HL364_0; clear BK359; clear BK360; clear HR364_0; clear HB; have HO_19 := n0_; have HO_360000 := n1_; have HO_360001 := n2_; have HO_361000 := n3_; have HO_361001 := n4_; have HL364_0 := n5_; have BK359 := n6_; have BK360 := n7_; have HR364_0 := n8_; have HB := n9_; clear n0_ n1_ n2_ n3_ n4_ n5_ n6_ n7_ n8_ n9_; (try clear hb); (try clear hb2); (try clear hk); (try clear hi)))
              go_ret
              exact ⟨by first | rfl | (simp [errW_none, errW_some] <;> rfl) | (simp [*, errW_none, errW_some] <;> rfl), by repeat (first | (with_reducible first | exact HB.out | apply below_alloc | apply pw_below_drewN | apply below_drew1 | refine below_set ?_ GE359.out | refine below_set ?_ GE360.out) | exact HB.out)⟩
          · rw [if_neg c14] at H
            exact absurd H (by simp)
        · rw [if_neg c13] at H
          exact absurd H (by simp)
      · rw [if_neg c12] at H
        have c12b0 : decide (x21_1 < (y361.length : Int)) = false := decide_eq_false c12
        clear c12
        obtain ⟨y366, hy366⟩ : ∃ y_ : List (List Int), y_ = (([l1_0, l1_1] : List (List Int))) := ⟨_, rfl⟩
        replace H : ((subst_Canon.f y366).bind fun t369 => ((subst_Canon.f (([l2_0, l2_1] : List (List Int)))).bind fun t375 => (if 0 < (t369.length : Int) then (if 0 < (t375.length : Int) then ((slices_Equal_int_int.f k1 (rd_L3 t369 0) (rd_L3 t375 0)).bind fun t380 => (if t380 = true then (if 1 < (t369.length : Int) then (if 1 < (t375.length : Int) then ((slices_Equal_int_int.f k1 (rd_L3 t369 1) (rd_L3 t375 1)).bind fun t383 => (some t383)) else (none)) else (none)) else (some false))) else (none)) else (none)))) = some r := by first | (rw [hy366]; with_reducible exact H) | (have H2_ := (Option.bind_some _ _).symm.trans H; rw [hy366]; with_reducible exact H2_) | (have H2_ := (Option.bind_some _ _).symm.trans H; with_reducible exact H2_) | with_reducible exact H | (rw [hy366]; exact H) | exact H
        have Ny366 := Aside0.mk hy366
        clear hy366
        replace H := Option.bind_eq_some_iff.mp H
        obtain ⟨t369, A190, H⟩ := H
        replace H : ((subst_Canon.f (([l2_0, l2_1] : List (List Int)))).bind fun t375 => (if 0 < (t369.length : Int) then (if 0 < (t375.length : Int) then ((slices_Equal_int_int.f k1 (rd_L3 t369 0) (rd_L3 t375 0)).bind fun t380 => (if t380 = true then (if 1 < (t369.length : Int) then (if 1 < (t375.length : Int) then ((slices_Equal_int_int.f k1 (rd_L3 t369 1) (rd_L3 t375 1)).bind fun t383 => (some t383)) else (none)) else (none)) else (some false))) else (none)) else (none))) = some r := H
        have A19 := Aside0.mk A190
        clear A190
        obtain ⟨y372, hy372⟩ : ∃ y_ : List (List Int), y_ = (([l2_0, l2_1] : List (List Int))) := ⟨_, rfl⟩
        replace H : ((subst_Canon.f y372).bind fun t375 => (if 0 < (t369.length : Int) then (if 0 < (t375.length : Int) then ((slices_Equal_int_int.f k1 (rd_L3 t369 0) (rd_L3 t375 0)).bind fun t380 => (if t380 = true then (if 1 < (t369.length : Int) then (if 1 < (t375.length : Int) then ((slices_Equal_int_int.f k1 (rd_L3 t369 1) (rd_L3 t375 1)).bind fun t383 => (some t383)) else (none)) else (none)) else (some false))) else (none)) else (none))) = some r := by first | (rw [hy372]; with_reducible exact H) | (have H2_ := (Option.bind_some _ _).symm.trans H; rw [hy372]; with_reducible exact H2_) | (have H2_ := (Option.bind_some _ _).symm.trans H; with_reducible exact H2_) | with_reducible exact H | (rw [hy372]; exact H) | exact H
        have Ny372 := Aside0.mk hy372
        clear hy372
        replace H := Option.bind_eq_some_iff.mp H
        obtain ⟨t375, A200, H⟩ := H
        replace H : (if 0 < (t369.length : Int) then (if 0 < (t375.length : Int) then ((slices_Equal_int_int.f k1 (rd_L3 t369 0) (rd_L3 t375 0)).bind fun t380 => (if t380 = true then (if 1 < (t369.length : Int) then (if 1 < (t375.length : Int) then ((slices_Equal_int_int.f k1 (rd_L3 t369 1) (rd_L3 t375 1)).bind fun t383 => (some t383)) else (none)) else (none)) else (some false))) else (none)) else (none)) = some r := H
        have A20 := Aside0.mk A200
        clear A200
        by_cases c21 : 0 < (t369.length : Int)
        · rw [if_pos c21] at H
          have c21b0 : decide (0 < (t369.length : Int)) = true := decide_eq_true c21
          have c21b1 : decide (0 < t369.length) = true := decide_eq_true (by omega)
          clear c21
          by_cases c22 : 0 < (t375.length : Int)
          · rw [if_pos c22] at H
            have c22b0 : decide (0 < (t375.length : Int)) = true := decide_eq_true c22
            have c22b1 : decide (0 < t375.length) = true := decide_eq_true (by omega)
            clear c22
            replace H := Option.bind_eq_some_iff.mp H
            obtain ⟨t380, A230, H⟩ := H
            replace H : (if t380 = true then (if 1 < (t369.length : Int) then (if 1 < (t375.length : Int) then ((slices_Equal_int_int.f k1 (rd_L3 t369 1) (rd_L3 t375 1)).bind fun t383 => (some t383)) else (none)) else (none)) else (some false)) = some r := H
            have A23 := Aside0.mk A230
            clear A230
            by_cases c24 : t380 = true
            · subst c24
              have H1 : (if 1 < (t369.length : Int) then (if 1 < (t375.length : Int) then ((slices_Equal_int_int.f k1 (rd_L3 t369 1) (rd_L3 t375 1)).bind fun t383 => (some t383)) else (none)) else (none)) = some r := by rw [if_pos rfl] at H; exact H
              clear H
              have H := H1
              clear H1
              by_cases c25 : 1 < (t369.length : Int)
              · rw [if_pos c25] at H
                have c25b0 : decide (1 < (t369.length : Int)) = true := decide_eq_true c25
                have c25b1 : decide (1 < t369.length) = true := decide_eq_true (by omega)
                clear c25
                by_cases c26 : 1 < (t375.length : Int)
                · rw [if_pos c26] at H
                  have c26b0 : decide (1 < (t375.length : Int)) = true := decide_eq_true c26
                  have c26b1 : decide (1 < t375.length) = true := decide_eq_true (by omega)
                  clear c26
                  replace H := Option.bind_eq_some_iff.mp H
                  obtain ⟨t383, A270, H⟩ := H
                  replace H : (some t383) = some r := H
                  have A27 := Aside0.mk A270
                  clear A270
                  obtain rfl := Option.some.inj H
                  try go_wp2
                  have n0_ := Aside0.mk (Kd.N_drew HO_19.out)
                  have n1_ := Aside0.mk (Kd.V_drew HO_360000.out)
                  have n2_ := Aside0.mk (Kd.V_drew HO_360001.out)
                  have n3_ := Aside0.mk (Kd.V_drew HO_361000.out)
                  have n4_ := Aside0.mk (Kd.V_drew HO_361001.out)
                  have n5_ := Aside0.mk (blk_drew BK359.out)
                  have n6_ := Aside0.mk (blk_drew BK360.out)
                  have n7_ := Aside0.mk (below_drew1 HB.out)
                  clear HO_19
                  clear HO_360000
                  clear HO_360001
                  clear HO_361000
                  clear HO_361001
                  clear BK359
                  clear BK360
                  clear HB
                  have HO_19 := n0_
                  have HO_360000 := n1_
                  have HO_360001 := n2_
                  have HO_361000 := n3_
                  have HO_361001 := n4_
                  have BK359 := n5_
                  have BK360 := n6_
                  have HB := n7_
                  clear n0_ n1_ n2_ n3_ n4_ n5_ n6_ n7_
                  refine start_ (n := 14) (S := fun w' => True) (ds := []) #[false, false, false, false, false, false, false, false, false, false, false, false, false, false] (by kernel_rfl) rfl rfl trivial (fun hHeld => ?_); refine with_tabW match_Variant.tab7 match_Variant.bits7 (fun HT_ HW_ => ?_)
                  generalize wr.drew = w28 at HO_19 HO_360000 HO_360001 HO_361000 HO_361001 BK359 BK360 HB hHeld ⊢
                  refine pure_ (i := 0) (N := some 30) (v := ?_) (a' := ?_) #[true, false, false, false, false, false, false, false, false, false, false, false, false, false] rfl rfl (any_of HT_.out (by kernel_rfl)) (fun _ _ _ h => h) (Or.inl ⟨by rfl, ?_⟩) ?_ ?_
                  rotate_left
                  · intro w'
                    go_simp
                    with_reducible rfl
                  rotate_left
                  · simp only [Act.put, List.setIfInBounds_toArray, List.set_cons_zero, List.set_cons_succ, i64_w, i32_w]
                    rfl
                  refine pure_ (i := 2) (N := some 32) (v := ?_) (a' := ?_) #[true, false, true, false, false, false, false, false, false, false, false, false, false, false] rfl rfl (any_of HT_.out (by kernel_rfl)) (fun _ _ _ h => h) (Or.inl ⟨by rfl, ?_⟩) ?_ ?_
                  rotate_left
                  · intro w'
                    go_simp
                    with_reducible rfl
                  rotate_left
                  · simp only [Act.put, List.setIfInBounds_toArray, List.set_cons_zero, List.set_cons_succ, i64_w, i32_w]
                    rfl
                  refine pure_ (i := 6) (N := some 36) (v := ?_) (a' := ?_) #[true, false, true, false, false, false, true, false, false, false, false, false, false, false] rfl rfl (any_of HT_.out (by kernel_rfl)) (fun _ _ _ h => h) (Or.inl ⟨by rfl, ?_⟩) ?_ ?_
                  rotate_left
                  · intro w'
                    go_simp
                    with_reducible rfl
                  rotate_left
                  · simp only [Act.put, List.setIfInBounds_toArray, List.set_cons_zero, List.set_cons_succ, i64_w, i32_w]
                    rfl
                  refine pure_ (i := 8) (N := some 38) (v := ?_) (a' := ?_) #[true, false, true, false, false, false, true, false, true, false, false, false, false, false] rfl rfl (any_of HT_.out (by kernel_rfl)) (fun _ _ _ h => h) (Or.inl ⟨by rfl, ?_⟩) ?_ ?_
                  rotate_left
                  · intro w'
                    go_simp
                    with_reducible rfl
                  rotate_left
                  · simp only [Act.put, List.setIfInBounds_toArray, List.set_cons_zero, List.set_cons_succ, i64_w, i32_w]
                    rfl
                  refine inv_at [1, 3, 4, 5, 7, 9, 10, 11, 12, 13] (fun a0_ b a w' => ∃ (v367 : Value) (v370 : Value) (v373 : Value) (v376 : Value) (m12_ : Value) (m13_ : Value), a = putSel a0_ b [(1, 31, .slice A1_0 l1_0.length c1_0), (3, 33, .slice A1_1 l1_1.length c1_1), (4, 34, v367), (5, 35, v370), (7, 37, .slice A2_0 l2_0.length c2_0), (9, 39, .slice A2_1 l2_1.length c2_1), (10, 40, v373), (11, 41, v376), (12, 9, m12_), (13, 10, m13_)] ∧ (Kd.N (Kd.slice 3 (Kd.int .i64)) 23 w' w.heap.size (fun k_ => ((P1_0_ k_ ∨ P1_1_ k_ ∨ P2_0_ k_ ∨ P2_1_ k_) ∨ w.heap.size ≤ k_) ∧ k_ ≠ gb359 ∧ k_ ≠ gb360) (.slice Ao11 y361.length co11) y361) ∧ (Kd.V (Kd.int .i64) 3 w' w.heap.size (fun k_ => ((P1_0_ k_ ∨ P1_1_ k_ ∨ P2_0_ k_ ∨ P2_1_ k_) ∨ w.heap.size ≤ k_) ∧ some k_ ≠ (.slice Ao11 y361.length co11 : Value).ownBlock ∧ k_ ≠ gb359 ∧ k_ ≠ gb360) (.slice A1_0 l1_0.length c1_0) l1_0) ∧ (Kd.V (Kd.int .i64) 3 w' w.heap.size (fun k_ => ((P1_0_ k_ ∨ P1_1_ k_ ∨ P2_0_ k_ ∨ P2_1_ k_) ∨ w.heap.size ≤ k_) ∧ some k_ ≠ (.slice Ao11 y361.length co11 : Value).ownBlock ∧ k_ ≠ gb359 ∧ k_ ≠ gb360) (.slice A1_1 l1_1.length c1_1) l1_1) ∧ (Kd.V (Kd.int .i64) 3 w' w.heap.size (fun k_ => ((P1_0_ k_ ∨ P1_1_ k_ ∨ P2_0_ k_ ∨ P2_1_ k_) ∨ w.heap.size ≤ k_) ∧ some k_ ≠ (.slice Ao11 y361.length co11 : Value).ownBlock ∧ k_ ≠ gb359 ∧ k_ ≠ gb360) (.slice A2_0 l2_0.length c2_0) l2_0) ∧ (Kd.V (Kd.int .i64) 3 w' w.heap.size (fun k_ => ((P1_0_ k_ ∨ P1_1_ k_ ∨ P2_0_ k_ ∨ P2_1_ k_) ∨ w.heap.size ≤ k_) ∧ some k_ ≠ (.slice Ao11 y361.length co11 : Value).ownBlock ∧ k_ ≠ gb359 ∧ k_ ≠ gb360) (.slice A2_1 l2_1.length c2_1) l2_1) ∧ (w'.heap[gb359]? = some (.cells #[.slice A1_0 l1_0.length c1_0, .slice A1_1 l1_1.length c1_1] 46 (0, 0))) ∧ (w'.heap[gb360]? = some (.cells #[.slice A2_0 l2_0.length c2_0, .slice A2_1 l2_1.length c2_1] 46 (0, 0))) ∧ (Below w.heap.size w w') ∧ (b 4 = true → Kd.N (Kd.slice 3 (Kd.int .i64)) 23 w' w.heap.size (fun k_ => ((P1_0_ k_ ∨ P1_1_ k_ ∨ P2_0_ k_ ∨ P2_1_ k_) ∨ w.heap.size ≤ k_) ∧ some k_ ≠ (.slice Ao11 y361.length co11 : Value).ownBlock ∧ k_ ≠ gb359 ∧ k_ ≠ gb360) v367 y366) ∧ (b 5 = true → Kd.N (Kd.slice 3 (Kd.int .i64)) 23 w' w.heap.size (fun k_ => ((P1_0_ k_ ∨ P1_1_ k_ ∨ P2_0_ k_ ∨ P2_1_ k_) ∨ w.heap.size ≤ k_) ∧ some k_ ≠ (.slice Ao11 y361.length co11 : Value).ownBlock ∧ k_ ≠ gb359 ∧ k_ ≠ gb360) v370 t369) ∧ (b 10 = true → Kd.N (Kd.slice 3 (Kd.int .i64)) 23 w' w.heap.size (fun k_ => ((P1_0_ k_ ∨ P1_1_ k_ ∨ P2_0_ k_ ∨ P2_1_ k_) ∨ w.heap.size ≤ k_) ∧ some k_ ≠ (.slice Ao11 y361.length co11 : Value).ownBlock ∧ k_ ≠ gb359 ∧ k_ ≠ gb360) v373 y372) ∧ (b 11 = true → Kd.N (Kd.slice 3 (Kd.int .i64)) 23 w' w.heap.size (fun k_ => ((P1_0_ k_ ∨ P1_1_ k_ ∨ P2_0_ k_ ∨ P2_1_ k_) ∨ w.heap.size ≤ k_) ∧ some k_ ≠ (.slice Ao11 y361.length co11 : Value).ownBlock ∧ k_ ≠ gb359 ∧ k_ ≠ gb360) v376 t375) ∧ (b 12 = true → (m12_ : Value) = v370) ∧ (b 13 = true → (m13_ : Value) = v376)) HT_.out HW_.out (by kernel_rfl) (by kernel_rfl) ?_ ?_ ?_
                  · exact ⟨.bool false, .bool false, .bool false, .bool false, .bool false, .bool false, by simp only [putSel, Bool.false_eq_true, if_false], HO_19.out, HO_360000.out, HO_360001.out, HO_361000.out, HO_361001.out, BK359.out, BK360.out, HB.out, fun h_ => absurd h_ (by decide), fun h_ => absurd h_ (by decide), fun h_ => absurd h_ (by decide), fun h_ => absurd h_ (by decide), fun h_ => absurd h_ (by decide), fun h_ => absurd h_ (by decide)⟩
                  · skip
                    clear BK359 BK360 HB HO_19 HO_360000 HO_360001 HO_361000 HO_361001
                    refine steps_cons ?_ ?_
                    · rintro b a w' ⟨v367, v370, v373, v376, m12_, m13_, ha, Q_HO_19, Q_HO_360000, Q_HO_360001, Q_HO_361000, Q_HO_361001, Q_BK359, Q_BK360, Q_HB, Q_HO368, Q_HO371, Q_HO374, Q_HO377, Q_X12_, Q_X13_⟩ hb_ hon hoff
                      refine ⟨_, rfl, fun K hK => ?_⟩
                      have e30 : a.tmps[30]? = some (.pointer (some ⟨gb359, 0, none⟩)) := by rw [ha]; exact (putSel_off rfl).trans rfl
                      replace ha := Aside0.mk ha
                      have HO_19 := Aside0.mk Q_HO_19
                      have HO_360000 := Aside0.mk Q_HO_360000
                      have HO_360001 := Aside0.mk Q_HO_360001
                      have HO_361000 := Aside0.mk Q_HO_361000
                      have HO_361001 := Aside0.mk Q_HO_361001
                      have BK359 := Aside0.mk Q_BK359
                      have BK360 := Aside0.mk Q_BK360
                      have HB := Aside0.mk Q_HB
                      have hc0_ : w'.cell? ⟨gb359, 0, none⟩ = some (.slice A1_0 l1_0.length c1_0) := (blk_cell BK359.out 0).trans rfl
                      have hc1_ : w'.cell? ⟨gb359, 1, none⟩ = some (.slice A1_1 l1_1.length c1_1) := (blk_cell BK359.out 1).trans rfl
                      refine value_ (w1 := w') (v := .slice A1_0 l1_0.length c1_0) (by rfl) rfl ?_ ?_
                      · go_simp
                        (try simp only [i64_w])
                        try rfl
                      refine hK.out _ _ ⟨v367, v370, v373, v376, m12_, m13_, (by rw [ha.out]; exact putSel_upk 0 hb_ rfl rfl rfl), Q_HO_19, Q_HO_360000, Q_HO_360001, Q_HO_361000, Q_HO_361001, Q_BK359, Q_BK360, Q_HB, fun h0_ => absurd ((hoff 4 (by kernel_rfl)).symm.trans h0_) (by decide), fun h0_ => absurd ((hoff 5 (by kernel_rfl)).symm.trans h0_) (by decide), Q_HO374, fun h0_ => absurd ((hoff 11 (by kernel_rfl)).symm.trans h0_) (by decide), fun h0_ => absurd ((hoff 12 (by kernel_rfl)).symm.trans h0_) (by decide), fun h0_ => absurd ((hoff 13 (by kernel_rfl)).symm.trans h0_) (by decide)⟩
                    refine steps_cons ?_ ?_
                    · rintro b a w' ⟨v367, v370, v373, v376, m12_, m13_, ha, Q_HO_19, Q_HO_360000, Q_HO_360001, Q_HO_361000, Q_HO_361001, Q_BK359, Q_BK360, Q_HB, Q_HO368, Q_HO371, Q_HO374, Q_HO377, Q_X12_, Q_X13_⟩ hb_ hon hoff
                      refine ⟨_, rfl, fun K hK => ?_⟩
                      have e32 : a.tmps[32]? = some (.pointer (some ⟨gb359, 1, none⟩)) := by rw [ha]; exact (putSel_off rfl).trans rfl
                      replace ha := Aside0.mk ha
                      have HO_19 := Aside0.mk Q_HO_19
                      have HO_360000 := Aside0.mk Q_HO_360000
                      have HO_360001 := Aside0.mk Q_HO_360001
                      have HO_361000 := Aside0.mk Q_HO_361000
                      have HO_361001 := Aside0.mk Q_HO_361001
                      have BK359 := Aside0.mk Q_BK359
                      have BK360 := Aside0.mk Q_BK360
                      have HB := Aside0.mk Q_HB
                      have hc0_ : w'.cell? ⟨gb359, 0, none⟩ = some (.slice A1_0 l1_0.length c1_0) := (blk_cell BK359.out 0).trans rfl
                      have hc1_ : w'.cell? ⟨gb359, 1, none⟩ = some (.slice A1_1 l1_1.length c1_1) := (blk_cell BK359.out 1).trans rfl
                      refine value_ (w1 := w') (v := .slice A1_1 l1_1.length c1_1) (by rfl) rfl ?_ ?_
                      · go_simp
                        (try simp only [i64_w])
                        try rfl
                      refine hK.out _ _ ⟨v367, v370, v373, v376, m12_, m13_, (by rw [ha.out]; exact putSel_upk 1 hb_ rfl rfl rfl), Q_HO_19, Q_HO_360000, Q_HO_360001, Q_HO_361000, Q_HO_361001, Q_BK359, Q_BK360, Q_HB, fun h0_ => absurd ((hoff 4 (by kernel_rfl)).symm.trans h0_) (by decide), fun h0_ => absurd ((hoff 5 (by kernel_rfl)).symm.trans h0_) (by decide), Q_HO374, fun h0_ => absurd ((hoff 11 (by kernel_rfl)).symm.trans h0_) (by decide), fun h0_ => absurd ((hoff 12 (by kernel_rfl)).symm.trans h0_) (by decide), fun h0_ => absurd ((hoff 13 (by kernel_rfl)).symm.trans h0_) (by decide)⟩
                    refine steps_cons ?_ ?_
                    · rintro b a w' ⟨v367, v370, v373, v376, m12_, m13_, ha, Q_HO_19, Q_HO_360000, Q_HO_360001, Q_HO_361000, Q_HO_361001, Q_BK359, Q_BK360, Q_HB, Q_HO368, Q_HO371, Q_HO374, Q_HO377, Q_X12_, Q_X13_⟩ hb_ hon hoff
                      refine ⟨_, rfl, fun K hK => ?_⟩
                      have e31 : a.tmps[31]? = some (.slice A1_0 l1_0.length c1_0) := by rw [ha]; exact putSel_on (e := (1, 31, .slice A1_0 l1_0.length c1_0)) 0 rfl rfl (hon 1 (by kernel_rfl)) rfl
                      have e33 : a.tmps[33]? = some (.slice A1_1 l1_1.length c1_1) := by rw [ha]; exact putSel_on (e := (3, 33, .slice A1_1 l1_1.length c1_1)) 1 rfl rfl (hon 3 (by kernel_rfl)) rfl
                      replace ha := Aside0.mk ha
                      have HO_19 := Aside0.mk Q_HO_19
                      have HO_360000 := Aside0.mk Q_HO_360000
                      have HO_360001 := Aside0.mk Q_HO_360001
                      have HO_361000 := Aside0.mk Q_HO_361000
                      have HO_361001 := Aside0.mk Q_HO_361001
                      have BK359 := Aside0.mk Q_BK359
                      have BK360 := Aside0.mk Q_BK360
                      have HB := Aside0.mk Q_HB
                      refine Kd.N_lit_step (Kd.slice 3 (Kd.int .i64)) _ 23 ?hg (N' := 34) ?hd (xs := ([l1_0, l1_1] : List (List Int))) (inner := [.slice A1_0 l1_0.length c1_0, .slice A1_1 l1_1.length c1_1]) (ok := (fun k_ => ((P1_0_ k_ ∨ P1_1_ k_ ∨ P2_0_ k_ ∨ P2_1_ k_) ∨ w.heap.size ≤ k_) ∧ some k_ ≠ (.slice Ao11 y361.length co11 : Value).ownBlock ∧ k_ ≠ gb359 ∧ k_ ≠ gb360)) (okp := (fun k_ => ((P1_0_ k_ ∨ P1_1_ k_ ∨ P2_0_ k_ ∨ P2_1_ k_) ∨ w.heap.size ≤ k_) ∧ some k_ ≠ (.slice Ao11 y361.length co11 : Value).ownBlock ∧ k_ ≠ gb359 ∧ k_ ≠ gb360)) ?hr ?hp (fun _ hk => hk) ((show ∀ k_, w'.heap.size ≤ k_ → (fun k_ => ((P1_0_ k_ ∨ P1_1_ k_ ∨ P2_0_ k_ ∨ P2_1_ k_) ∨ w.heap.size ≤ k_) ∧ some k_ ≠ (.slice Ao11 y361.length co11 : Value).ownBlock ∧ k_ ≠ gb359 ∧ k_ ≠ gb360) k_ from fun k_ hk => ⟨(.inr (Nat.le_trans (below_size (by repeat (first | (with_reducible first | exact HB.out | apply below_alloc | apply pw_below_drewN | apply below_drew1 | refine below_set ?_ GE359.out | refine below_set ?_ GE360.out) | exact HB.out))) hk)), Kd.fresh' (Kd.N_lt (by (with_reducible repeat (first | apply Kd.N_alloc | apply Kd.N_drewN | apply Kd.N_drew)); exact HO_19.out)) k_ hk, Kd.freshB (g := gb359) (o := .cells #[.slice A1_0 l1_0.length c1_0, .slice A1_1 l1_1.length c1_1] 46 (0, 0)) (by (with_reducible repeat (first | refine blk_drewN ?_ _ | refine blk_drew ?_ | refine blk_alloc ?_ _)); exact BK359.out) k_ hk, Kd.freshB (g := gb360) (o := .cells #[.slice A2_0 l2_0.length c2_0, .slice A2_1 l2_1.length c2_1] 46 (0, 0)) (by (with_reducible repeat (first | refine blk_drewN ?_ _ | refine blk_drew ?_ | refine blk_alloc ?_ _)); exact BK360.out) k_ hk⟩) _ (Nat.le_refl _)) (Below.refl _ _) (Nat.le_refl _) (by simp) ?_; (case hd => rfl); (case hg => rfl); (case hr => first | (go_simp; done) | (go_simp; rfl)); (case hp => exact (Reps.one (show Kd.FK (Kd.slice 3 (Kd.int .i64)) _ _ l1_0 [.slice A1_0 l1_0.length c1_0] from (Kd.FK_slice_mk (Kd.V_reads' (Kd.V_mono (ok' := (fun k_ => ((P1_0_ k_ ∨ P1_1_ k_ ∨ P2_0_ k_ ∨ P2_1_ k_) ∨ w.heap.size ≤ k_) ∧ some k_ ≠ (.slice Ao11 y361.length co11 : Value).ownBlock ∧ k_ ≠ gb359 ∧ k_ ≠ gb360)) (HO_360000.out) (fun k_ hk => ⟨hk.1, ⟨hk.2.1, ⟨hk.2.2.1, hk.2.2.2⟩⟩⟩))).2.1 (Kd.V_F (Kd.V_mono (ok' := (fun k_ => ((P1_0_ k_ ∨ P1_1_ k_ ∨ P2_0_ k_ ∨ P2_1_ k_) ∨ w.heap.size ≤ k_) ∧ some k_ ≠ (.slice Ao11 y361.length co11 : Value).ownBlock ∧ k_ ≠ gb359 ∧ k_ ≠ gb360)) (HO_360000.out) (fun k_ hk => ⟨hk.1, ⟨hk.2.1, ⟨hk.2.2.1, hk.2.2.2⟩⟩⟩))))) (Reps.one (show Kd.FK (Kd.slice 3 (Kd.int .i64)) _ _ l1_1 [.slice A1_1 l1_1.length c1_1] from (Kd.FK_slice_mk (Kd.V_reads' (Kd.V_mono (ok' := (fun k_ => ((P1_0_ k_ ∨ P1_1_ k_ ∨ P2_0_ k_ ∨ P2_1_ k_) ∨ w.heap.size ≤ k_) ∧ some k_ ≠ (.slice Ao11 y361.length co11 : Value).ownBlock ∧ k_ ≠ gb359 ∧ k_ ≠ gb360)) (HO_360001.out) (fun k_ hk => ⟨hk.1, ⟨hk.2.1, ⟨hk.2.2.1, hk.2.2.2⟩⟩⟩))).2.1 (Kd.V_F (Kd.V_mono (ok' := (fun k_ => ((P1_0_ k_ ∨ P1_1_ k_ ∨ P2_0_ k_ ∨ P2_1_ k_) ∨ w.heap.size ≤ k_) ∧ some k_ ≠ (.slice Ao11 y361.length co11 : Value).ownBlock ∧ k_ ≠ gb359 ∧ k_ ≠ gb360)) (HO_360001.out) (fun k_ hk => ⟨hk.1, ⟨hk.2.1, ⟨hk.2.2.1, hk.2.2.2⟩⟩⟩))))) (Reps.none _ _))))
                      intro v367 w29 ho30 hb hg_ hnew_
                      clear hg_ hnew_
                      (first | rw [← Ny366.out] at ho30 | (simp only [Int.reduceToNat] at ho30; rw [← Ny366.out] at ho30))
                      have n0_ := Aside0.mk (Kd.N_elder' (by (with_reducible repeat (first | apply Kd.N_alloc | apply Kd.N_drewN | apply Kd.N_drew)); exact HO_19.out) ((by first | exact Kd.N_base ho30 | exact Kd.S_base ho30)) hb)
                      have n1_ := Aside0.mk (Kd.V_elder' (by (with_reducible repeat (first | apply Kd.V_alloc | apply Kd.V_drewN | apply Kd.V_drew)); exact HO_360000.out) ((by first | exact Kd.N_base ho30 | exact Kd.S_base ho30)) hb)
                      have n2_ := Aside0.mk (Kd.V_elder' (by (with_reducible repeat (first | apply Kd.V_alloc | apply Kd.V_drewN | apply Kd.V_drew)); exact HO_360001.out) ((by first | exact Kd.N_base ho30 | exact Kd.S_base ho30)) hb)
                      have n3_ := Aside0.mk (Kd.V_elder' (by (with_reducible repeat (first | apply Kd.V_alloc | apply Kd.V_drewN | apply Kd.V_drew)); exact HO_361000.out) ((by first | exact Kd.N_base ho30 | exact Kd.S_base ho30)) hb)
                      have n4_ := Aside0.mk (Kd.V_elder' (by (with_reducible repeat (first | apply Kd.V_alloc | apply Kd.V_drewN | apply Kd.V_drew)); exact HO_361001.out) ((by first | exact Kd.N_base ho30 | exact Kd.S_base ho30)) hb)
                      have n5_ := Aside0.mk (Kd.N_lower ho30 (below_size (by repeat (first | (with_reducible first | exact HB.out | apply below_alloc | apply pw_below_drewN | apply below_drew1 | refine below_set ?_ GE359.out | refine below_set ?_ GE360.out) | exact HB.out))))
                      have n6_ := Aside0.mk (blk_below (g := gb359) (o := .cells #[.slice A1_0 l1_0.length c1_0, .slice A1_1 l1_1.length c1_1] 46 (0, 0)) (by (with_reducible repeat (first | refine blk_drewN ?_ _ | refine blk_drew ?_ | refine blk_alloc ?_ _)); exact BK359.out) hb)
                      have n7_ := Aside0.mk (blk_below (g := gb360) (o := .cells #[.slice A2_0 l2_0.length c2_0, .slice A2_1 l2_1.length c2_1] 46 (0, 0)) (by (with_reducible repeat (first | refine blk_drewN ?_ _ | refine blk_drew ?_ | refine blk_alloc ?_ _)); exact BK360.out) hb)
                      have n8_ := Aside0.mk (below_step (by repeat (first | (with_reducible first | exact HB.out | apply below_alloc | apply pw_below_drewN | apply below_drew1 | refine below_set ?_ GE359.out | refine below_set ?_ GE360.out) | exact HB.out)) hb)
                      have z_HO374 := fun (h0_ : b 10 = true) => (show Kd.N (Kd.slice 3 (Kd.int .i64)) 23 w29 w.heap.size (fun k_ => ((P1_0_ k_ ∨ P1_1_ k_ ∨ P2_0_ k_ ∨ P2_1_ k_) ∨ w.heap.size ≤ k_) ∧ some k_ ≠ (.slice Ao11 y361.length co11 : Value).ownBlock ∧ k_ ≠ gb359 ∧ k_ ≠ gb360) v373 y372 from by first | exact (Kd.N_elder' (by (with_reducible repeat (first | apply Kd.N_alloc | apply Kd.N_drewN | apply Kd.N_drew)); exact (Q_HO374 h0_)) ((by first | exact Kd.N_base ho30 | exact Kd.S_base ho30)) hb) | exact Kd.N_mono (Kd.N_elder' (by (with_reducible repeat (first | apply Kd.N_alloc | apply Kd.N_drewN | apply Kd.N_drew)); exact (Q_HO374 h0_)) ((by first | exact Kd.N_base ho30 | exact Kd.S_base ho30)) hb) (fun _ h_ => by first | trivial | exact h_ | exact h_.1))
                      clear HO_19
                      clear HO_360000
                      clear HO_360001
                      clear HO_361000
                      clear HO_361001
                      clear BK359
                      clear BK360
                      clear HB
                      have HO_19 := n0_
                      have HO_360000 := n1_
                      have HO_360001 := n2_
                      have HO_361000 := n3_
                      have HO_361001 := n4_
                      have HO368 := n5_
                      have BK359 := n6_
                      have BK360 := n7_
                      have HB := n8_
                      clear n0_ n1_ n2_ n3_ n4_ n5_ n6_ n7_ n8_
                      clear hb ho30
                      refine hK.out _ _ ⟨v367, v370, v373, v376, m12_, m13_, (by rw [ha.out]; exact putSel_upk 2 hb_ rfl rfl rfl), (by (with_reducible repeat (first | apply Kd.N_alloc | apply Kd.N_drewN | apply Kd.N_drew)); exact Kd.N_mono HO_19.out (fun _ hk => by first | exact ⟨hk.1.1, ⟨hk.2, ⟨hk.1.2.1, hk.1.2.2⟩⟩⟩ | grind)), (by (with_reducible repeat (first | apply Kd.V_alloc | apply Kd.V_drewN | apply Kd.V_drew)); exact Kd.V_mono HO_360000.out (fun _ hk => by first | exact ⟨hk.1.1, ⟨hk.2, ⟨hk.1.2.1, ⟨hk.1.2.2.1, hk.1.2.2.2⟩⟩⟩⟩ | grind)), (by (with_reducible repeat (first | apply Kd.V_alloc | apply Kd.V_drewN | apply Kd.V_drew)); exact Kd.V_mono HO_360001.out (fun _ hk => by first | exact ⟨hk.1.1, ⟨hk.2, ⟨hk.1.2.1, ⟨hk.1.2.2.1, hk.1.2.2.2⟩⟩⟩⟩ | grind)), (by (with_reducible repeat (first | apply Kd.V_alloc | apply Kd.V_drewN | apply Kd.V_drew)); exact Kd.V_mono HO_361000.out (fun _ hk => by first | exact ⟨hk.1.1, ⟨hk.2, ⟨hk.1.2.1, ⟨hk.1.2.2.1, hk.1.2.2.2⟩⟩⟩⟩ | grind)), (by (with_reducible repeat (first | apply Kd.V_alloc | apply Kd.V_drewN | apply Kd.V_drew)); exact Kd.V_mono HO_361001.out (fun _ hk => by first | exact ⟨hk.1.1, ⟨hk.2, ⟨hk.1.2.1, ⟨hk.1.2.2.1, hk.1.2.2.2⟩⟩⟩⟩ | grind)), (by (with_reducible repeat (first | refine blk_drewN ?_ _ | refine blk_drew ?_ | refine blk_alloc ?_ _)); exact BK359.out), (by (with_reducible repeat (first | refine blk_drewN ?_ _ | refine blk_drew ?_ | refine blk_alloc ?_ _)); exact BK360.out), (by repeat (first | (with_reducible first | exact HB.out | apply below_alloc | apply pw_below_drewN | apply below_drew1 | refine below_set ?_ GE359.out | refine below_set ?_ GE360.out) | exact HB.out)), fun _ => (by (with_reducible repeat (first | apply Kd.N_alloc | apply Kd.N_drewN | apply Kd.N_drew)); exact HO368.out), fun h0_ => absurd ((hoff 5 (by kernel_rfl)).symm.trans h0_) (by decide), z_HO374, fun h0_ => absurd ((hoff 11 (by kernel_rfl)).symm.trans h0_) (by decide), fun h0_ => absurd ((hoff 12 (by kernel_rfl)).symm.trans h0_) (by decide), fun h0_ => absurd ((hoff 13 (by kernel_rfl)).symm.trans h0_) (by decide)⟩
                    refine steps_cons ?_ ?_
                    · rintro b a w' ⟨v367, v370, v373, v376, m12_, m13_, ha, Q_HO_19, Q_HO_360000, Q_HO_360001, Q_HO_361000, Q_HO_361001, Q_BK359, Q_BK360, Q_HB, Q_HO368, Q_HO371, Q_HO374, Q_HO377, Q_X12_, Q_X13_⟩ hb_ hon hoff
                      refine ⟨_, rfl, fun K hK => ?_⟩
                      have e34 : a.tmps[34]? = some (v367) := by rw [ha]; exact putSel_on (e := (4, 34, v367)) 2 rfl rfl (hon 4 (by kernel_rfl)) rfl
                      replace ha := Aside0.mk ha
                      have HO_19 := Aside0.mk Q_HO_19
                      have HO_360000 := Aside0.mk Q_HO_360000
                      have HO_360001 := Aside0.mk Q_HO_360001
                      have HO_361000 := Aside0.mk Q_HO_361000
                      have HO_361001 := Aside0.mk Q_HO_361001
                      have BK359 := Aside0.mk Q_BK359
                      have BK360 := Aside0.mk Q_BK360
                      have HB := Aside0.mk Q_HB
                      have HO368 := Aside0.mk (Q_HO368 (hon 4 (by kernel_rfl)))
                      obtain ⟨Ao32, co32, eo32⟩ := Kd.N_slice HO368.out
                      (first | subst eo32 | (injection eo32 with f1_ f2_ f3_; have f4_ := f1_.symm; have f5_ := f3_.symm; clear f1_ f2_ f3_; subst f4_; subst f5_))
                      refine goes_ Tryd.func52 (by kernel_rfl) rfl #[.slice Ao32 y366.length co32] (by rfl) rfl rfl (by first | (simp only [List.map_toArray, List.map_cons, List.map_nil, Act.eval, Array.getD_eq_getD_getElem?, Option.getD_some, e34]; done) | (simp only [List.map_toArray, List.map_cons, List.map_nil, Act.eval, Array.getD_eq_getD_getElem?, Option.getD_some, e34]; rfl)) ?_
                      with_reducible refine (subst_Canon.calls _ _ y366 t369 _ ?side1 ?side2 A19.out).mono ?_
                      (case side1 => repeat (first | exact (Kd.N_reads' HO368.out).2.2 | (with_reducible refine Kd.C_alloc ?_ _) | (with_reducible refine Kd.C_drewN ?_ _) | (with_reducible refine Kd.C_drew ?_)))
                      (case side2 => exact (Kd.N_reads' HO368.out).2.1)
                      rintro e w33 ⟨v370, rfl, ho0, hb⟩
                      refine ⟨_, rfl, ?_⟩
                      have n0_ := Aside0.mk (Kd.N_elder' (by (with_reducible repeat (first | apply Kd.N_alloc | apply Kd.N_drewN | apply Kd.N_drew)); exact HO_19.out) ((by first | exact Kd.N_base ho0 | exact Kd.S_base ho0)) hb)
                      have n1_ := Aside0.mk (Kd.V_elder' (by (with_reducible repeat (first | apply Kd.V_alloc | apply Kd.V_drewN | apply Kd.V_drew)); exact HO_360000.out) ((by first | exact Kd.N_base ho0 | exact Kd.S_base ho0)) hb)
                      have n2_ := Aside0.mk (Kd.V_elder' (by (with_reducible repeat (first | apply Kd.V_alloc | apply Kd.V_drewN | apply Kd.V_drew)); exact HO_360001.out) ((by first | exact Kd.N_base ho0 | exact Kd.S_base ho0)) hb)
                      have n3_ := Aside0.mk (Kd.V_elder' (by (with_reducible repeat (first | apply Kd.V_alloc | apply Kd.V_drewN | apply Kd.V_drew)); exact HO_361000.out) ((by first | exact Kd.N_base ho0 | exact Kd.S_base ho0)) hb)
                      have n4_ := Aside0.mk (Kd.V_elder' (by (with_reducible repeat (first | apply Kd.V_alloc | apply Kd.V_drewN | apply Kd.V_drew)); exact HO_361001.out) ((by first | exact Kd.N_base ho0 | exact Kd.S_base ho0)) hb)
                      have n5_ := Aside0.mk (Kd.N_elder' (by (with_reducible repeat (first | apply Kd.N_alloc | apply Kd.N_drewN | apply Kd.N_drew)); exact HO368.out) ((by first | exact Kd.N_base ho0 | exact Kd.S_base ho0)) hb)
                      have n6_ := Aside0.mk (Kd.N_lower (Kd.N_mono (ok' := fun k_ => ((P1_0_ k_ ∨ P1_1_ k_ ∨ P2_0_ k_ ∨ P2_1_ k_) ∨ w.heap.size ≤ k_) ∧ some k_ ≠ (.slice Ao11 y361.length co11 : Value).ownBlock ∧ some k_ ≠ (.slice Ao32 y366.length co32 : Value).ownBlock ∧ k_ ≠ gb359 ∧ k_ ≠ gb360) (Kd.S_N (Kd.S_bound ho0)) (fun k_ hk_ => ⟨(.inr (Nat.le_trans (below_size (by repeat (first | (with_reducible first | exact HB.out | apply below_alloc | apply pw_below_drewN | apply below_drew1 | refine below_set ?_ GE359.out | refine below_set ?_ GE360.out) | exact HB.out))) hk_.2.1)), (Kd.fresh' (Kd.N_lt (by (with_reducible repeat (first | apply Kd.N_alloc | apply Kd.N_drewN | apply Kd.N_drew)); exact HO_19.out)) k_ hk_.2.1), (Kd.fresh' (Kd.N_lt (by (with_reducible repeat (first | apply Kd.N_alloc | apply Kd.N_drewN | apply Kd.N_drew)); exact HO368.out)) k_ hk_.2.1), (Kd.freshB (g := gb359) (o := .cells #[.slice A1_0 l1_0.length c1_0, .slice A1_1 l1_1.length c1_1] 46 (0, 0)) (by (with_reducible repeat (first | refine blk_drewN ?_ _ | refine blk_drew ?_ | refine blk_alloc ?_ _)); exact BK359.out) k_ hk_.2.1), (Kd.freshB (g := gb360) (o := .cells #[.slice A2_0 l2_0.length c2_0, .slice A2_1 l2_1.length c2_1] 46 (0, 0)) (by (with_reducible repeat (first | refine blk_drewN ?_ _ | refine blk_drew ?_ | refine blk_alloc ?_ _)); exact BK360.out) k_ hk_.2.1)⟩)) (below_size (by repeat (first | (with_reducible first | exact HB.out | apply below_alloc | apply pw_below_drewN | apply below_drew1 | refine below_set ?_ GE359.out | refine below_set ?_ GE360.out) | exact HB.out))))
                      have n7_ := Aside0.mk (blk_below (g := gb359) (o := .cells #[.slice A1_0 l1_0.length c1_0, .slice A1_1 l1_1.length c1_1] 46 (0, 0)) (by (with_reducible repeat (first | refine blk_drewN ?_ _ | refine blk_drew ?_ | refine blk_alloc ?_ _)); exact BK359.out) hb)
                      have n8_ := Aside0.mk (blk_below (g := gb360) (o := .cells #[.slice A2_0 l2_0.length c2_0, .slice A2_1 l2_1.length c2_1] 46 (0, 0)) (by (with_reducible repeat (first | refine blk_drewN ?_ _ | refine blk_drew ?_ | refine blk_alloc ?_ _)); exact BK360.out) hb)
                      have n9_ := Aside0.mk (below_step (by repeat (first | (with_reducible first | exact HB.out | apply below_alloc | apply pw_below_drewN | apply below_drew1 | refine below_set ?_ GE359.out | refine below_set ?_ GE360.out) | exact HB.out)) hb)
                      have z_HO374 := fun (h0_ : b 10 = true) => (show Kd.N (Kd.slice 3 (Kd.int .i64)) 23 w33 w.heap.size (fun k_ => ((P1_0_ k_ ∨ P1_1_ k_ ∨ P2_0_ k_ ∨ P2_1_ k_) ∨ w.heap.size ≤ k_) ∧ some k_ ≠ (.slice Ao11 y361.length co11 : Value).ownBlock ∧ k_ ≠ gb359 ∧ k_ ≠ gb360) v373 y372 from by first | exact (Kd.N_elder' (by (with_reducible repeat (first | apply Kd.N_alloc | apply Kd.N_drewN | apply Kd.N_drew)); exact (Q_HO374 h0_)) ((by first | exact Kd.N_base ho0 | exact Kd.S_base ho0)) hb) | exact Kd.N_mono (Kd.N_elder' (by (with_reducible repeat (first | apply Kd.N_alloc | apply Kd.N_drewN | apply Kd.N_drew)); exact (Q_HO374 h0_)) ((by first | exact Kd.N_base ho0 | exact Kd.S_base ho0)) hb) (fun _ h_ => by first | trivial | exact h_ | exact h_.1))
                      clear HO_19
                      clear HO_360000
                      clear HO_360001
                      clear HO_361000
                      clear HO_361001
                      clear HO368
                      clear BK359
                      clear BK360
                      clear HB
                      have HO_19 := n0_
                      have HO_360000 := n1_
                      have HO_360001 := n2_
                      have HO_361000 := n3_
                      have HO_361001 := n4_
                      have HO368 := n5_
                      have HO371 := n6_
                      have BK359 := n7_
                      have BK360 := n8_
                      have HB := n9_
                      clear n0_ n1_ n2_ n3_ n4_ n5_ n6_ n7_ n8_ n9_
                      (try clear hb)
                      (try clear hb2)
                      (try clear hk)
                      (try clear hi)
                      (try clear ho0)
                      refine hK.out _ _ ⟨.slice Ao32 y366.length co32, v370, v373, v376, m12_, m13_, (by rw [ha.out]; exact putSel_upk 3 hb_ rfl rfl rfl), (by (with_reducible repeat (first | apply Kd.N_alloc | apply Kd.N_drewN | apply Kd.N_drew)); exact Kd.N_mono HO_19.out (fun _ hk => by first | exact ⟨hk.1.1, ⟨hk.1.2.1, ⟨hk.2, ⟨hk.1.2.2.1, hk.1.2.2.2⟩⟩⟩⟩ | grind)), (by (with_reducible repeat (first | apply Kd.V_alloc | apply Kd.V_drewN | apply Kd.V_drew)); exact Kd.V_mono HO_360000.out (fun _ hk => by first | exact ⟨hk.1.1, ⟨hk.1.2.1, ⟨hk.2, ⟨hk.1.2.2.1, ⟨hk.1.2.2.2.1, hk.1.2.2.2.2⟩⟩⟩⟩⟩ | grind)), (by (with_reducible repeat (first | apply Kd.V_alloc | apply Kd.V_drewN | apply Kd.V_drew)); exact Kd.V_mono HO_360001.out (fun _ hk => by first | exact ⟨hk.1.1, ⟨hk.1.2.1, ⟨hk.2, ⟨hk.1.2.2.1, ⟨hk.1.2.2.2.1, hk.1.2.2.2.2⟩⟩⟩⟩⟩ | grind)), (by (with_reducible repeat (first | apply Kd.V_alloc | apply Kd.V_drewN | apply Kd.V_drew)); exact Kd.V_mono HO_361000.out (fun _ hk => by first | exact ⟨hk.1.1, ⟨hk.1.2.1, ⟨hk.2, ⟨hk.1.2.2.1, ⟨hk.1.2.2.2.1, hk.1.2.2.2.2⟩⟩⟩⟩⟩ | grind)), (by (with_reducible repeat (first | apply Kd.V_alloc | apply Kd.V_drewN | apply Kd.V_drew)); exact Kd.V_mono HO_361001.out (fun _ hk => by first | exact ⟨hk.1.1, ⟨hk.1.2.1, ⟨hk.2, ⟨hk.1.2.2.1, ⟨hk.1.2.2.2.1, hk.1.2.2.2.2⟩⟩⟩⟩⟩ | grind)), (by (with_reducible repeat (first | refine blk_drewN ?_ _ | refine blk_drew ?_ | refine blk_alloc ?_ _)); exact BK359.out), (by (with_reducible repeat (first | refine blk_drewN ?_ _ | refine blk_drew ?_ | refine blk_alloc ?_ _)); exact BK360.out), (by repeat (first | (with_reducible first | exact HB.out | apply below_alloc | apply pw_below_drewN | apply below_drew1 | refine below_set ?_ GE359.out | refine below_set ?_ GE360.out) | exact HB.out)), fun _ => (by (with_reducible repeat (first | apply Kd.N_alloc | apply Kd.N_drewN | apply Kd.N_drew)); exact Kd.N_mono HO368.out (fun _ hk => by first | exact ⟨hk.1.1, ⟨hk.2, ⟨hk.1.2.1, ⟨hk.1.2.2.1, hk.1.2.2.2⟩⟩⟩⟩ | grind)), fun _ => (by (with_reducible repeat (first | apply Kd.N_alloc | apply Kd.N_drewN | apply Kd.N_drew)); exact Kd.N_mono HO371.out (fun _ hk => by first | exact ⟨hk.1, ⟨hk.2.2.1, ⟨hk.2.1, ⟨hk.2.2.2.1, hk.2.2.2.2⟩⟩⟩⟩ | grind)), z_HO374, fun h0_ => absurd ((hoff 11 (by kernel_rfl)).symm.trans h0_) (by decide), fun h0_ => absurd ((hoff 12 (by kernel_rfl)).symm.trans h0_) (by decide), fun h0_ => absurd ((hoff 13 (by kernel_rfl)).symm.trans h0_) (by decide)⟩
                    refine steps_cons ?_ ?_
                    · rintro b a w' ⟨v367, v370, v373, v376, m12_, m13_, ha, Q_HO_19, Q_HO_360000, Q_HO_360001, Q_HO_361000, Q_HO_361001, Q_BK359, Q_BK360, Q_HB, Q_HO368, Q_HO371, Q_HO374, Q_HO377, Q_X12_, Q_X13_⟩ hb_ hon hoff
                      refine ⟨_, rfl, fun K hK => ?_⟩
                      have e36 : a.tmps[36]? = some (.pointer (some ⟨gb360, 0, none⟩)) := by rw [ha]; exact (putSel_off rfl).trans rfl
                      replace ha := Aside0.mk ha
                      have HO_19 := Aside0.mk Q_HO_19
                      have HO_360000 := Aside0.mk Q_HO_360000
                      have HO_360001 := Aside0.mk Q_HO_360001
                      have HO_361000 := Aside0.mk Q_HO_361000
                      have HO_361001 := Aside0.mk Q_HO_361001
                      have BK359 := Aside0.mk Q_BK359
                      have BK360 := Aside0.mk Q_BK360
                      have HB := Aside0.mk Q_HB
                      have hc0_ : w'.cell? ⟨gb360, 0, none⟩ = some (.slice A2_0 l2_0.length c2_0) := (blk_cell BK360.out 0).trans rfl
                      have hc1_ : w'.cell? ⟨gb360, 1, none⟩ = some (.slice A2_1 l2_1.length c2_1) := (blk_cell BK360.out 1).trans rfl
                      refine value_ (w1 := w') (v := .slice A2_0 l2_0.length c2_0) (by rfl) rfl ?_ ?_
                      · go_simp
                        (try simp only [i64_w])
                        try rfl
                      refine hK.out _ _ ⟨v367, v370, v373, v376, m12_, m13_, (by rw [ha.out]; exact putSel_upk 4 hb_ rfl rfl rfl), Q_HO_19, Q_HO_360000, Q_HO_360001, Q_HO_361000, Q_HO_361001, Q_BK359, Q_BK360, Q_HB, Q_HO368, Q_HO371, fun h0_ => absurd ((hoff 10 (by kernel_rfl)).symm.trans h0_) (by decide), fun h0_ => absurd ((hoff 11 (by kernel_rfl)).symm.trans h0_) (by decide), fun h0_ => absurd ((hoff 12 (by kernel_rfl)).symm.trans h0_) (by decide), fun h0_ => absurd ((hoff 13 (by kernel_rfl)).symm.trans h0_) (by decide)⟩
                    refine steps_cons ?_ ?_
                    · rintro b a w' ⟨v367, v370, v373, v376, m12_, m13_, ha, Q_HO_19, Q_HO_360000, Q_HO_360001, Q_HO_361000, Q_HO_361001, Q_BK359, Q_BK360, Q_HB, Q_HO368, Q_HO371, Q_HO374, Q_HO377, Q_X12_, Q_X13_⟩ hb_ hon hoff
                      refine ⟨_, rfl, fun K hK => ?_⟩
                      have e38 : a.tmps[38]? = some (.pointer (some ⟨gb360, 1, none⟩)) := by rw [ha]; exact (putSel_off rfl).trans rfl
                      replace ha := Aside0.mk ha
                      have HO_19 := Aside0.mk Q_HO_19
                      have HO_360000 := Aside0.mk Q_HO_360000
                      have HO_360001 := Aside0.mk Q_HO_360001
                      have HO_361000 := Aside0.mk Q_HO_361000
                      have HO_361001 := Aside0.mk Q_HO_361001
                      have BK359 := Aside0.mk Q_BK359
                      have BK360 := Aside0.mk Q_BK360
                      have HB := Aside0.mk Q_HB
                      have hc0_ : w'.cell? ⟨gb360, 0, none⟩ = some (.slice A2_0 l2_0.length c2_0) := (blk_cell BK360.out 0).trans rfl
                      have hc1_ : w'.cell? ⟨gb360, 1, none⟩ = some (.slice A2_1 l2_1.length c2_1) := (blk_cell BK360.out 1).trans rfl
                      refine value_ (w1 := w') (v := .slice A2_1 l2_1.length c2_1) (by rfl) rfl ?_ ?_
                      · go_simp
                        (try simp only [i64_w])
                        try rfl
                      refine hK.out _ _ ⟨v367, v370, v373, v376, m12_, m13_, (by rw [ha.out]; exact putSel_upk 5 hb_ rfl rfl rfl), Q_HO_19, Q_HO_360000, Q_HO_360001, Q_HO_361000, Q_HO_361001, Q_BK359, Q_BK360, Q_HB, Q_HO368, Q_HO371, fun h0_ => absurd ((hoff 10 (by kernel_rfl)).symm.trans h0_) (by decide), fun h0_ => absurd ((hoff 11 (by kernel_rfl)).symm.trans h0_) (by decide), fun h0_ => absurd ((hoff 12 (by kernel_rfl)).symm.trans h0_) (by decide), fun h0_ => absurd ((hoff 13 (by kernel_rfl)).symm.trans h0_) (by decide)⟩
                    refine steps_cons ?_ ?_
                    · rintro b a w' ⟨v367, v370, v373, v376, m12_, m13_, ha, Q_HO_19, Q_HO_360000, Q_HO_360001, Q_HO_361000, Q_HO_361001, Q_BK359, Q_BK360, Q_HB, Q_HO368, Q_HO371, Q_HO374, Q_HO377, Q_X12_, Q_X13_⟩ hb_ hon hoff
                      refine ⟨_, rfl, fun K hK => ?_⟩
                      have e37 : a.tmps[37]? = some (.slice A2_0 l2_0.length c2_0) := by rw [ha]; exact putSel_on (e := (7, 37, .slice A2_0 l2_0.length c2_0)) 4 rfl rfl (hon 7 (by kernel_rfl)) rfl
                      have e39 : a.tmps[39]? = some (.slice A2_1 l2_1.length c2_1) := by rw [ha]; exact putSel_on (e := (9, 39, .slice A2_1 l2_1.length c2_1)) 5 rfl rfl (hon 9 (by kernel_rfl)) rfl
                      replace ha := Aside0.mk ha
                      have HO_19 := Aside0.mk Q_HO_19
                      have HO_360000 := Aside0.mk Q_HO_360000
                      have HO_360001 := Aside0.mk Q_HO_360001
                      have HO_361000 := Aside0.mk Q_HO_361000
                      have HO_361001 := Aside0.mk Q_HO_361001
                      have BK359 := Aside0.mk Q_BK359
                      have BK360 := Aside0.mk Q_BK360
                      have HB := Aside0.mk Q_HB
                      refine Kd.N_lit_step (Kd.slice 3 (Kd.int .i64)) _ 23 ?hg (N' := 40) ?hd (xs := ([l2_0, l2_1] : List (List Int))) (inner := [.slice A2_0 l2_0.length c2_0, .slice A2_1 l2_1.length c2_1]) (ok := (fun k_ => ((P1_0_ k_ ∨ P1_1_ k_ ∨ P2_0_ k_ ∨ P2_1_ k_) ∨ w.heap.size ≤ k_) ∧ some k_ ≠ (.slice Ao11 y361.length co11 : Value).ownBlock ∧ k_ ≠ gb359 ∧ k_ ≠ gb360)) (okp := (fun k_ => ((P1_0_ k_ ∨ P1_1_ k_ ∨ P2_0_ k_ ∨ P2_1_ k_) ∨ w.heap.size ≤ k_) ∧ some k_ ≠ (.slice Ao11 y361.length co11 : Value).ownBlock ∧ k_ ≠ gb359 ∧ k_ ≠ gb360)) ?hr ?hp (fun _ hk => hk) ((show ∀ k_, w'.heap.size ≤ k_ → (fun k_ => ((P1_0_ k_ ∨ P1_1_ k_ ∨ P2_0_ k_ ∨ P2_1_ k_) ∨ w.heap.size ≤ k_) ∧ some k_ ≠ (.slice Ao11 y361.length co11 : Value).ownBlock ∧ k_ ≠ gb359 ∧ k_ ≠ gb360) k_ from fun k_ hk => ⟨(.inr (Nat.le_trans (below_size (by repeat (first | (with_reducible first | exact HB.out | apply below_alloc | apply pw_below_drewN | apply below_drew1 | refine below_set ?_ GE359.out | refine below_set ?_ GE360.out) | exact HB.out))) hk)), Kd.fresh' (Kd.N_lt (by (with_reducible repeat (first | apply Kd.N_alloc | apply Kd.N_drewN | apply Kd.N_drew)); exact HO_19.out)) k_ hk, Kd.freshB (g := gb359) (o := .cells #[.slice A1_0 l1_0.length c1_0, .slice A1_1 l1_1.length c1_1] 46 (0, 0)) (by (with_reducible repeat (first | refine blk_drewN ?_ _ | refine blk_drew ?_ | refine blk_alloc ?_ _)); exact BK359.out) k_ hk, Kd.freshB (g := gb360) (o := .cells #[.slice A2_0 l2_0.length c2_0, .slice A2_1 l2_1.length c2_1] 46 (0, 0)) (by (with_reducible repeat (first | refine blk_drewN ?_ _ | refine blk_drew ?_ | refine blk_alloc ?_ _)); exact BK360.out) k_ hk⟩) _ (Nat.le_refl _)) (Below.refl _ _) (Nat.le_refl _) (by simp) ?_; (case hd => rfl); (case hg => rfl); (case hr => first | (go_simp; done) | (go_simp; rfl)); (case hp => exact (Reps.one (show Kd.FK (Kd.slice 3 (Kd.int .i64)) _ _ l2_0 [.slice A2_0 l2_0.length c2_0] from (Kd.FK_slice_mk (Kd.V_reads' (Kd.V_mono (ok' := (fun k_ => ((P1_0_ k_ ∨ P1_1_ k_ ∨ P2_0_ k_ ∨ P2_1_ k_) ∨ w.heap.size ≤ k_) ∧ some k_ ≠ (.slice Ao11 y361.length co11 : Value).ownBlock ∧ k_ ≠ gb359 ∧ k_ ≠ gb360)) (HO_361000.out) (fun k_ hk => ⟨hk.1, ⟨hk.2.1, ⟨hk.2.2.1, hk.2.2.2⟩⟩⟩))).2.1 (Kd.V_F (Kd.V_mono (ok' := (fun k_ => ((P1_0_ k_ ∨ P1_1_ k_ ∨ P2_0_ k_ ∨ P2_1_ k_) ∨ w.heap.size ≤ k_) ∧ some k_ ≠ (.slice Ao11 y361.length co11 : Value).ownBlock ∧ k_ ≠ gb359 ∧ k_ ≠ gb360)) (HO_361000.out) (fun k_ hk => ⟨hk.1, ⟨hk.2.1, ⟨hk.2.2.1, hk.2.2.2⟩⟩⟩))))) (Reps.one (show Kd.FK (Kd.slice 3 (Kd.int .i64)) _ _ l2_1 [.slice A2_1 l2_1.length c2_1] from (Kd.FK_slice_mk (Kd.V_reads' (Kd.V_mono (ok' := (fun k_ => ((P1_0_ k_ ∨ P1_1_ k_ ∨ P2_0_ k_ ∨ P2_1_ k_) ∨ w.heap.size ≤ k_) ∧ some k_ ≠ (.slice Ao11 y361.length co11 : Value).ownBlock ∧ k_ ≠ gb359 ∧ k_ ≠ gb360)) (HO_361001.out) (fun k_ hk => ⟨hk.1, ⟨hk.2.1, ⟨hk.2.2.1, hk.2.2.2⟩⟩⟩))).2.1 (Kd.V_F (Kd.V_mono (ok' := (fun k_ => ((P1_0_ k_ ∨ P1_1_ k_ ∨ P2_0_ k_ ∨ P2_1_ k_) ∨ w.heap.size ≤ k_) ∧ some k_ ≠ (.slice Ao11 y361.length co11 : Value).ownBlock ∧ k_ ≠ gb359 ∧ k_ ≠ gb360)) (HO_361001.out) (fun k_ hk => ⟨hk.1, ⟨hk.2.1, ⟨hk.2.2.1, hk.2.2.2⟩⟩⟩))))) (Reps.none _ _))))
                      intro v373 w29 ho30 hb hg_ hnew_
                      clear hg_ hnew_
                      (first | rw [← Ny372.out] at ho30 | (simp only [Int.reduceToNat] at ho30; rw [← Ny372.out] at ho30))
                      have n0_ := Aside0.mk (Kd.N_elder' (by (with_reducible repeat (first | apply Kd.N_alloc | apply Kd.N_drewN | apply Kd.N_drew)); exact HO_19.out) ((by first | exact Kd.N_base ho30 | exact Kd.S_base ho30)) hb)
                      have n1_ := Aside0.mk (Kd.V_elder' (by (with_reducible repeat (first | apply Kd.V_alloc | apply Kd.V_drewN | apply Kd.V_drew)); exact HO_360000.out) ((by first | exact Kd.N_base ho30 | exact Kd.S_base ho30)) hb)
                      have n2_ := Aside0.mk (Kd.V_elder' (by (with_reducible repeat (first | apply Kd.V_alloc | apply Kd.V_drewN | apply Kd.V_drew)); exact HO_360001.out) ((by first | exact Kd.N_base ho30 | exact Kd.S_base ho30)) hb)
                      have n3_ := Aside0.mk (Kd.V_elder' (by (with_reducible repeat (first | apply Kd.V_alloc | apply Kd.V_drewN | apply Kd.V_drew)); exact HO_361000.out) ((by first | exact Kd.N_base ho30 | exact Kd.S_base ho30)) hb)
                      have n4_ := Aside0.mk (Kd.V_elder' (by (with_reducible repeat (first | apply Kd.V_alloc | apply Kd.V_drewN | apply Kd.V_drew)); exact HO_361001.out) ((by first | exact Kd.N_base ho30 | exact Kd.S_base ho30)) hb)
                      have n5_ := Aside0.mk (Kd.N_lower ho30 (below_size (by repeat (first | (with_reducible first | exact HB.out | apply below_alloc | apply pw_below_drewN | apply below_drew1 | refine below_set ?_ GE359.out | refine below_set ?_ GE360.out) | exact HB.out))))
                      have n6_ := Aside0.mk (blk_below (g := gb359) (o := .cells #[.slice A1_0 l1_0.length c1_0, .slice A1_1 l1_1.length c1_1] 46 (0, 0)) (by (with_reducible repeat (first | refine blk_drewN ?_ _ | refine blk_drew ?_ | refine blk_alloc ?_ _)); exact BK359.out) hb)
                      have n7_ := Aside0.mk (blk_below (g := gb360) (o := .cells #[.slice A2_0 l2_0.length c2_0, .slice A2_1 l2_1.length c2_1] 46 (0, 0)) (by (with_reducible repeat (first | refine blk_drewN ?_ _ | refine blk_drew ?_ | refine blk_alloc ?_ _)); exact BK360.out) hb)
                      have n8_ := Aside0.mk (below_step (by repeat (first | (with_reducible first | exact HB.out | apply below_alloc | apply pw_below_drewN | apply below_drew1 | refine below_set ?_ GE359.out | refine below_set ?_ GE360.out) | exact HB.out)) hb)
                      have z_HO368 := fun (h0_ : b 4 = true) => (show Kd.N (Kd.slice 3 (Kd.int .i64)) 23 w29 w.heap.size (fun k_ => ((P1_0_ k_ ∨ P1_1_ k_ ∨ P2_0_ k_ ∨ P2_1_ k_) ∨ w.heap.size ≤ k_) ∧ some k_ ≠ (.slice Ao11 y361.length co11 : Value).ownBlock ∧ k_ ≠ gb359 ∧ k_ ≠ gb360) v367 y366 from by first | exact (Kd.N_elder' (by (with_reducible repeat (first | apply Kd.N_alloc | apply Kd.N_drewN | apply Kd.N_drew)); exact (Q_HO368 h0_)) ((by first | exact Kd.N_base ho30 | exact Kd.S_base ho30)) hb) | exact Kd.N_mono (Kd.N_elder' (by (with_reducible repeat (first | apply Kd.N_alloc | apply Kd.N_drewN | apply Kd.N_drew)); exact (Q_HO368 h0_)) ((by first | exact Kd.N_base ho30 | exact Kd.S_base ho30)) hb) (fun _ h_ => by first | trivial | exact h_ | exact h_.1))
                      have z_HO371 := fun (h0_ : b 5 = true) => (show Kd.N (Kd.slice 3 (Kd.int .i64)) 23 w29 w.heap.size (fun k_ => ((P1_0_ k_ ∨ P1_1_ k_ ∨ P2_0_ k_ ∨ P2_1_ k_) ∨ w.heap.size ≤ k_) ∧ some k_ ≠ (.slice Ao11 y361.length co11 : Value).ownBlock ∧ k_ ≠ gb359 ∧ k_ ≠ gb360) v370 t369 from by first | exact (Kd.N_elder' (by (with_reducible repeat (first | apply Kd.N_alloc | apply Kd.N_drewN | apply Kd.N_drew)); exact (Q_HO371 h0_)) ((by first | exact Kd.N_base ho30 | exact Kd.S_base ho30)) hb) | exact Kd.N_mono (Kd.N_elder' (by (with_reducible repeat (first | apply Kd.N_alloc | apply Kd.N_drewN | apply Kd.N_drew)); exact (Q_HO371 h0_)) ((by first | exact Kd.N_base ho30 | exact Kd.S_base ho30)) hb) (fun _ h_ => by first | trivial | exact h_ | exact h_.1))
                      clear HO_19
                      clear HO_360000
                      clear HO_360001
                      clear HO_361000
                      clear HO_361001
                      clear BK359
                      clear BK360
                      clear HB
                      have HO_19 := n0_
                      have HO_360000 := n1_
                      have HO_360001 := n2_
                      have HO_361000 := n3_
                      have HO_361001 := n4_
                      have HO374 := n5_
                      have BK359 := n6_
                      have BK360 := n7_
                      have HB := n8_
                      clear n0_ n1_ n2_ n3_ n4_ n5_ n6_ n7_ n8_
                      clear hb ho30
                      refine hK.out _ _ ⟨v367, v370, v373, v376, m12_, m13_, (by rw [ha.out]; exact putSel_upk 6 hb_ rfl rfl rfl), (by (with_reducible repeat (first | apply Kd.N_alloc | apply Kd.N_drewN | apply Kd.N_drew)); exact Kd.N_mono HO_19.out (fun _ hk => by first | exact ⟨hk.1.1, ⟨hk.2, ⟨hk.1.2.1, hk.1.2.2⟩⟩⟩ | grind)), (by (with_reducible repeat (first | apply Kd.V_alloc | apply Kd.V_drewN | apply Kd.V_drew)); exact Kd.V_mono HO_360000.out (fun _ hk => by first | exact ⟨hk.1.1, ⟨hk.2, ⟨hk.1.2.1, ⟨hk.1.2.2.1, hk.1.2.2.2⟩⟩⟩⟩ | grind)), (by (with_reducible repeat (first | apply Kd.V_alloc | apply Kd.V_drewN | apply Kd.V_drew)); exact Kd.V_mono HO_360001.out (fun _ hk => by first | exact ⟨hk.1.1, ⟨hk.2, ⟨hk.1.2.1, ⟨hk.1.2.2.1, hk.1.2.2.2⟩⟩⟩⟩ | grind)), (by (with_reducible repeat (first | apply Kd.V_alloc | apply Kd.V_drewN | apply Kd.V_drew)); exact Kd.V_mono HO_361000.out (fun _ hk => by first | exact ⟨hk.1.1, ⟨hk.2, ⟨hk.1.2.1, ⟨hk.1.2.2.1, hk.1.2.2.2⟩⟩⟩⟩ | grind)), (by (with_reducible repeat (first | apply Kd.V_alloc | apply Kd.V_drewN | apply Kd.V_drew)); exact Kd.V_mono HO_361001.out (fun _ hk => by first | exact ⟨hk.1.1, ⟨hk.2, ⟨hk.1.2.1, ⟨hk.1.2.2.1, hk.1.2.2.2⟩⟩⟩⟩ | grind)), (by (with_reducible repeat (first | refine blk_drewN ?_ _ | refine blk_drew ?_ | refine blk_alloc ?_ _)); exact BK359.out), (by (with_reducible repeat (first | refine blk_drewN ?_ _ | refine blk_drew ?_ | refine blk_alloc ?_ _)); exact BK360.out), (by repeat (first | (with_reducible first | exact HB.out | apply below_alloc | apply pw_below_drewN | apply below_drew1 | refine below_set ?_ GE359.out | refine below_set ?_ GE360.out) | exact HB.out)), z_HO368, z_HO371, fun _ => (by (with_reducible repeat (first | apply Kd.N_alloc | apply Kd.N_drewN | apply Kd.N_drew)); exact HO374.out), fun h0_ => absurd ((hoff 11 (by kernel_rfl)).symm.trans h0_) (by decide), fun h0_ => absurd ((hoff 12 (by kernel_rfl)).symm.trans h0_) (by decide), fun h0_ => absurd ((hoff 13 (by kernel_rfl)).symm.trans h0_) (by decide)⟩
                    refine steps_cons ?_ ?_
                    · rintro b a w' ⟨v367, v370, v373, v376, m12_, m13_, ha, Q_HO_19, Q_HO_360000, Q_HO_360001, Q_HO_361000, Q_HO_361001, Q_BK359, Q_BK360, Q_HB, Q_HO368, Q_HO371, Q_HO374, Q_HO377, Q_X12_, Q_X13_⟩ hb_ hon hoff
                      refine ⟨_, rfl, fun K hK => ?_⟩
                      have e40 : a.tmps[40]? = some (v373) := by rw [ha]; exact putSel_on (e := (10, 40, v373)) 6 rfl rfl (hon 10 (by kernel_rfl)) rfl
                      replace ha := Aside0.mk ha
                      have HO_19 := Aside0.mk Q_HO_19
                      have HO_360000 := Aside0.mk Q_HO_360000
                      have HO_360001 := Aside0.mk Q_HO_360001
                      have HO_361000 := Aside0.mk Q_HO_361000
                      have HO_361001 := Aside0.mk Q_HO_361001
                      have BK359 := Aside0.mk Q_BK359
                      have BK360 := Aside0.mk Q_BK360
                      have HB := Aside0.mk Q_HB
                      have HO368 := Aside0.mk (Q_HO368 (hon 4 (by kernel_rfl)))
                      have HO371 := Aside0.mk (Q_HO371 (hon 5 (by kernel_rfl)))
                      have HO374 := Aside0.mk (Q_HO374 (hon 10 (by kernel_rfl)))
                      obtain ⟨Ao36, co36, eo36⟩ := Kd.N_slice HO374.out
                      (first | subst eo36 | (injection eo36 with f1_ f2_ f3_; have f4_ := f1_.symm; have f5_ := f3_.symm; clear f1_ f2_ f3_; subst f4_; subst f5_))
                      refine goes_ Tryd.func52 (by kernel_rfl) rfl #[.slice Ao36 y372.length co36] (by rfl) rfl rfl (by first | (simp only [List.map_toArray, List.map_cons, List.map_nil, Act.eval, Array.getD_eq_getD_getElem?, Option.getD_some, e40]; done) | (simp only [List.map_toArray, List.map_cons, List.map_nil, Act.eval, Array.getD_eq_getD_getElem?, Option.getD_some, e40]; rfl)) ?_
                      with_reducible refine (subst_Canon.calls _ _ y372 t375 _ ?side1 ?side2 A20.out).mono ?_
                      (case side1 => repeat (first | exact (Kd.N_reads' HO374.out).2.2 | (with_reducible refine Kd.C_alloc ?_ _) | (with_reducible refine Kd.C_drewN ?_ _) | (with_reducible refine Kd.C_drew ?_)))
                      (case side2 => exact (Kd.N_reads' HO374.out).2.1)
                      rintro e w37 ⟨v376, rfl, ho0, hb⟩
                      refine ⟨_, rfl, ?_⟩
                      have n0_ := Aside0.mk (Kd.N_elder' (by (with_reducible repeat (first | apply Kd.N_alloc | apply Kd.N_drewN | apply Kd.N_drew)); exact HO_19.out) ((by first | exact Kd.N_base ho0 | exact Kd.S_base ho0)) hb)
                      have n1_ := Aside0.mk (Kd.V_elder' (by (with_reducible repeat (first | apply Kd.V_alloc | apply Kd.V_drewN | apply Kd.V_drew)); exact HO_360000.out) ((by first | exact Kd.N_base ho0 | exact Kd.S_base ho0)) hb)
                      have n2_ := Aside0.mk (Kd.V_elder' (by (with_reducible repeat (first | apply Kd.V_alloc | apply Kd.V_drewN | apply Kd.V_drew)); exact HO_360001.out) ((by first | exact Kd.N_base ho0 | exact Kd.S_base ho0)) hb)
                      have n3_ := Aside0.mk (Kd.V_elder' (by (with_reducible repeat (first | apply Kd.V_alloc | apply Kd.V_drewN | apply Kd.V_drew)); exact HO_361000.out) ((by first | exact Kd.N_base ho0 | exact Kd.S_base ho0)) hb)
                      have n4_ := Aside0.mk (Kd.V_elder' (by (with_reducible repeat (first | apply Kd.V_alloc | apply Kd.V_drewN | apply Kd.V_drew)); exact HO_361001.out) ((by first | exact Kd.N_base ho0 | exact Kd.S_base ho0)) hb)
                      have n5_ := Aside0.mk (Kd.N_elder' (by (with_reducible repeat (first | apply Kd.N_alloc | apply Kd.N_drewN | apply Kd.N_drew)); exact HO368.out) ((by first | exact Kd.N_base ho0 | exact Kd.S_base ho0)) hb)
                      have n6_ := Aside0.mk (Kd.N_elder' (by (with_reducible repeat (first | apply Kd.N_alloc | apply Kd.N_drewN | apply Kd.N_drew)); exact HO371.out) ((by first | exact Kd.N_base ho0 | exact Kd.S_base ho0)) hb)
                      have n7_ := Aside0.mk (Kd.N_elder' (by (with_reducible repeat (first | apply Kd.N_alloc | apply Kd.N_drewN | apply Kd.N_drew)); exact HO374.out) ((by first | exact Kd.N_base ho0 | exact Kd.S_base ho0)) hb)
                      have n8_ := Aside0.mk (Kd.N_lower (Kd.N_mono (ok' := fun k_ => ((P1_0_ k_ ∨ P1_1_ k_ ∨ P2_0_ k_ ∨ P2_1_ k_) ∨ w.heap.size ≤ k_) ∧ some k_ ≠ (.slice Ao11 y361.length co11 : Value).ownBlock ∧ some k_ ≠ (v367 : Value).ownBlock ∧ some k_ ≠ (v370 : Value).ownBlock ∧ some k_ ≠ (.slice Ao36 y372.length co36 : Value).ownBlock ∧ k_ ≠ gb359 ∧ k_ ≠ gb360) (Kd.S_N (Kd.S_bound ho0)) (fun k_ hk_ => ⟨(.inr (Nat.le_trans (below_size (by repeat (first | (with_reducible first | exact HB.out | apply below_alloc | apply pw_below_drewN | apply below_drew1 | refine below_set ?_ GE359.out | refine below_set ?_ GE360.out) | exact HB.out))) hk_.2.1)), (Kd.fresh' (Kd.N_lt (by (with_reducible repeat (first | apply Kd.N_alloc | apply Kd.N_drewN | apply Kd.N_drew)); exact HO_19.out)) k_ hk_.2.1), (Kd.fresh' (Kd.N_lt (by (with_reducible repeat (first | apply Kd.N_alloc | apply Kd.N_drewN | apply Kd.N_drew)); exact HO368.out)) k_ hk_.2.1), (Kd.fresh' (Kd.N_lt (by (with_reducible repeat (first | apply Kd.N_alloc | apply Kd.N_drewN | apply Kd.N_drew)); exact HO371.out)) k_ hk_.2.1), (Kd.fresh' (Kd.N_lt (by (with_reducible repeat (first | apply Kd.N_alloc | apply Kd.N_drewN | apply Kd.N_drew)); exact HO374.out)) k_ hk_.2.1), (Kd.freshB (g := gb359) (o := .cells #[.slice A1_0 l1_0.length c1_0, .slice A1_1 l1_1.length c1_1] 46 (0, 0)) (by (with_reducible repeat (first | refine blk_drewN ?_ _ | refine blk_drew ?_ | refine blk_alloc ?_ _)); exact BK359.out) k_ hk_.2.1), (Kd.freshB (g := gb360) (o := .cells #[.slice A2_0 l2_0.length c2_0, .slice A2_1 l2_1.length c2_1] 46 (0, 0)) (by (with_reducible repeat (first | refine blk_drewN ?_ _ | refine blk_drew ?_ | refine blk_alloc ?_ _)); exact BK360.out) k_ hk_.2.1)⟩)) (below_size (by repeat (first | (with_reducible first | exact HB.out | apply below_alloc | apply pw_below_drewN | apply below_drew1 | refine below_set ?_ GE359.out | refine below_set ?_ GE360.out) | exact HB.out))))
                      have n9_ := Aside0.mk (blk_below (g := gb359) (o := .cells #[.slice A1_0 l1_0.length c1_0, .slice A1_1 l1_1.length c1_1] 46 (0, 0)) (by (with_reducible repeat (first | refine blk_drewN ?_ _ | refine blk_drew ?_ | refine blk_alloc ?_ _)); exact BK359.out) hb)
                      have n10_ := Aside0.mk (blk_below (g := gb360) (o := .cells #[.slice A2_0 l2_0.length c2_0, .slice A2_1 l2_1.length c2_1] 46 (0, 0)) (by (with_reducible repeat (first | refine blk_drewN ?_ _ | refine blk_drew ?_ | refine blk_alloc ?_ _)); exact BK360.out) hb)
                      have n11_ := Aside0.mk (below_step (by repeat (first | (with_reducible first | exact HB.out | apply below_alloc | apply pw_below_drewN | apply below_drew1 | refine below_set ?_ GE359.out | refine below_set ?_ GE360.out) | exact HB.out)) hb)
                      clear HO_19
                      clear HO_360000
                      clear HO_360001
                      clear HO_361000
                      clear HO_361001
                      clear HO368
                      clear HO371
                      clear HO374
                      clear BK359
                      clear BK360
                      clear HB
                      have HO_19 := n0_
                      have HO_360000 := n1_
                      have HO_360001 := n2_
                      have HO_361000 := n3_
                      have HO_361001 := n4_
                      have HO368 := n5_
                      have HO371 := n6_
                      have HO374 := n7_
                      have HO377 := n8_
                      have BK359 := n9_
                      have BK360 := n10_
                      have HB := n11_
                      clear n0_ n1_ n2_ n3_ n4_ n5_ n6_ n7_ n8_ n9_ n10_ n11_
                      (try clear hb)
                      (try clear hb2)
                      (try clear hk)
                      (try clear hi)
                      (try clear ho0)
                      refine hK.out _ _ ⟨v367, v370, .slice Ao36 y372.length co36, v376, m12_, m13_, (by rw [ha.out]; exact putSel_upk 7 hb_ rfl rfl rfl), (by (with_reducible repeat (first | apply Kd.N_alloc | apply Kd.N_drewN | apply Kd.N_drew)); exact Kd.N_mono HO_19.out (fun _ hk => by first | exact ⟨hk.1.1, ⟨hk.1.2.1, ⟨hk.1.2.2.1, ⟨hk.1.2.2.2.1, ⟨hk.2, ⟨hk.1.2.2.2.2.1, hk.1.2.2.2.2.2⟩⟩⟩⟩⟩⟩ | grind)), (by (with_reducible repeat (first | apply Kd.V_alloc | apply Kd.V_drewN | apply Kd.V_drew)); exact Kd.V_mono HO_360000.out (fun _ hk => by first | exact ⟨hk.1.1, ⟨hk.1.2.1, ⟨hk.1.2.2.1, ⟨hk.1.2.2.2.1, ⟨hk.2, ⟨hk.1.2.2.2.2.1, ⟨hk.1.2.2.2.2.2.1, hk.1.2.2.2.2.2.2⟩⟩⟩⟩⟩⟩⟩ | grind)), (by (with_reducible repeat (first | apply Kd.V_alloc | apply Kd.V_drewN | apply Kd.V_drew)); exact Kd.V_mono HO_360001.out (fun _ hk => by first | exact ⟨hk.1.1, ⟨hk.1.2.1, ⟨hk.1.2.2.1, ⟨hk.1.2.2.2.1, ⟨hk.2, ⟨hk.1.2.2.2.2.1, ⟨hk.1.2.2.2.2.2.1, hk.1.2.2.2.2.2.2⟩⟩⟩⟩⟩⟩⟩ | grind)), (by (with_reducible repeat (first | apply Kd.V_alloc | apply Kd.V_drewN | apply Kd.V_drew)); exact Kd.V_mono HO_361000.out (fun _ hk => by first | exact ⟨hk.1.1, ⟨hk.1.2.1, ⟨hk.1.2.2.1, ⟨hk.1.2.2.2.1, ⟨hk.2, ⟨hk.1.2.2.2.2.1, ⟨hk.1.2.2.2.2.2.1, hk.1.2.2.2.2.2.2⟩⟩⟩⟩⟩⟩⟩ | grind)), (by (with_reducible repeat (first | apply Kd.V_alloc | apply Kd.V_drewN | apply Kd.V_drew)); exact Kd.V_mono HO_361001.out (fun _ hk => by first | exact ⟨hk.1.1, ⟨hk.1.2.1, ⟨hk.1.2.2.1, ⟨hk.1.2.2.2.1, ⟨hk.2, ⟨hk.1.2.2.2.2.1, ⟨hk.1.2.2.2.2.2.1, hk.1.2.2.2.2.2.2⟩⟩⟩⟩⟩⟩⟩ | grind)), (by (with_reducible repeat (first | refine blk_drewN ?_ _ | refine blk_drew ?_ | refine blk_alloc ?_ _)); exact BK359.out), (by (with_reducible repeat (first | refine blk_drewN ?_ _ | refine blk_drew ?_ | refine blk_alloc ?_ _)); exact BK360.out), (by repeat (first | (with_reducible first | exact HB.out | apply below_alloc | apply pw_below_drewN | apply below_drew1 | refine below_set ?_ GE359.out | refine below_set ?_ GE360.out) | exact HB.out)), fun _ => (by (with_reducible repeat (first | apply Kd.N_alloc | apply Kd.N_drewN | apply Kd.N_drew)); exact Kd.N_mono HO368.out (fun _ hk => by first | exact ⟨hk.1.1, ⟨hk.1.2.1, ⟨hk.1.2.2.1, ⟨hk.2, ⟨hk.1.2.2.2.1, ⟨hk.1.2.2.2.2.1, hk.1.2.2.2.2.2⟩⟩⟩⟩⟩⟩ | grind)), fun _ => (by (with_reducible repeat (first | apply Kd.N_alloc | apply Kd.N_drewN | apply Kd.N_drew)); exact Kd.N_mono HO371.out (fun _ hk => by first | exact ⟨hk.1.1, ⟨hk.1.2.1, ⟨hk.1.2.2.1, ⟨hk.2, ⟨hk.1.2.2.2.1, ⟨hk.1.2.2.2.2.1, hk.1.2.2.2.2.2⟩⟩⟩⟩⟩⟩ | grind)), fun _ => (by (with_reducible repeat (first | apply Kd.N_alloc | apply Kd.N_drewN | apply Kd.N_drew)); exact Kd.N_mono HO374.out (fun _ hk => by first | exact ⟨hk.1.1, ⟨hk.1.2.1, ⟨hk.1.2.2.1, ⟨hk.2, ⟨hk.1.2.2.2.1, ⟨hk.1.2.2.2.2.1, hk.1.2.2.2.2.2⟩⟩⟩⟩⟩⟩ | grind)), fun _ => (by (with_reducible repeat (first | apply Kd.N_alloc | apply Kd.N_drewN | apply Kd.N_drew)); exact Kd.N_mono HO377.out (fun _ hk => by first | exact ⟨hk.1, ⟨hk.2.2.1, ⟨hk.2.2.2.1, ⟨hk.2.2.2.2.1, ⟨hk.2.1, ⟨hk.2.2.2.2.2.1, hk.2.2.2.2.2.2⟩⟩⟩⟩⟩⟩ | grind)), fun h0_ => absurd ((hoff 12 (by kernel_rfl)).symm.trans h0_) (by decide), fun h0_ => absurd ((hoff 13 (by kernel_rfl)).symm.trans h0_) (by decide)⟩
                    refine steps_cons ?_ ?_
                    · rintro b a w' ⟨v367, v370, v373, v376, m12_, m13_, ha, Q_HO_19, Q_HO_360000, Q_HO_360001, Q_HO_361000, Q_HO_361001, Q_BK359, Q_BK360, Q_HB, Q_HO368, Q_HO371, Q_HO374, Q_HO377, Q_X12_, Q_X13_⟩ hb_ hon hoff
                      refine ⟨_, rfl, fun K hK => ?_⟩
                      have e35 : a.tmps[35]? = some (v370) := by rw [ha]; exact putSel_on (e := (5, 35, v370)) 3 rfl rfl (hon 5 (by kernel_rfl)) rfl
                      replace ha := Aside0.mk ha
                      have HO_19 := Aside0.mk Q_HO_19
                      have HO_360000 := Aside0.mk Q_HO_360000
                      have HO_360001 := Aside0.mk Q_HO_360001
                      have HO_361000 := Aside0.mk Q_HO_361000
                      have HO_361001 := Aside0.mk Q_HO_361001
                      have BK359 := Aside0.mk Q_BK359
                      have BK360 := Aside0.mk Q_BK360
                      have HB := Aside0.mk Q_HB
                      have HO368 := Aside0.mk (Q_HO368 (hon 4 (by kernel_rfl)))
                      have HO371 := Aside0.mk (Q_HO371 (hon 5 (by kernel_rfl)))
                      have HO374 := Aside0.mk (Q_HO374 (hon 10 (by kernel_rfl)))
                      have HO377 := Aside0.mk (Q_HO377 (hon 11 (by kernel_rfl)))
                      refine value_ (w1 := w') (v := v370) (by rfl) rfl ?_ ?_
                      · go_simp
                        (try simp only [i64_w])
                        try rfl
                      refine hK.out _ _ ⟨v367, v370, v373, v376, (v370), m13_, (by rw [ha.out]; exact putSel_upk 8 hb_ rfl rfl rfl), Q_HO_19, Q_HO_360000, Q_HO_360001, Q_HO_361000, Q_HO_361001, Q_BK359, Q_BK360, Q_HB, Q_HO368, Q_HO371, Q_HO374, Q_HO377, fun _ => rfl, fun h0_ => absurd ((hoff 13 (by kernel_rfl)).symm.trans h0_) (by decide)⟩
                    refine steps_cons ?_ ?_
                    · rintro b a w' ⟨v367, v370, v373, v376, m12_, m13_, ha, Q_HO_19, Q_HO_360000, Q_HO_360001, Q_HO_361000, Q_HO_361001, Q_BK359, Q_BK360, Q_HB, Q_HO368, Q_HO371, Q_HO374, Q_HO377, Q_X12_, Q_X13_⟩ hb_ hon hoff
                      refine ⟨_, rfl, fun K hK => ?_⟩
                      have e41 : a.tmps[41]? = some (v376) := by rw [ha]; exact putSel_on (e := (11, 41, v376)) 7 rfl rfl (hon 11 (by kernel_rfl)) rfl
                      replace ha := Aside0.mk ha
                      have HO_19 := Aside0.mk Q_HO_19
                      have HO_360000 := Aside0.mk Q_HO_360000
                      have HO_360001 := Aside0.mk Q_HO_360001
                      have HO_361000 := Aside0.mk Q_HO_361000
                      have HO_361001 := Aside0.mk Q_HO_361001
                      have BK359 := Aside0.mk Q_BK359
                      have BK360 := Aside0.mk Q_BK360
                      have HB := Aside0.mk Q_HB
                      have HO368 := Aside0.mk (Q_HO368 (hon 4 (by kernel_rfl)))
                      have HO371 := Aside0.mk (Q_HO371 (hon 5 (by kernel_rfl)))
                      have HO374 := Aside0.mk (Q_HO374 (hon 10 (by kernel_rfl)))
                      have HO377 := Aside0.mk (Q_HO377 (hon 11 (by kernel_rfl)))
                      refine value_ (w1 := w') (v := v376) (by rfl) rfl ?_ ?_
                      · go_simp
                        (try simp only [i64_w])
                        try rfl
                      refine hK.out _ _ ⟨v367, v370, v373, v376, m12_, (v376), (by rw [ha.out]; exact putSel_upk 9 hb_ rfl rfl rfl), Q_HO_19, Q_HO_360000, Q_HO_360001, Q_HO_361000, Q_HO_361001, Q_BK359, Q_BK360, Q_HB, Q_HO368, Q_HO371, Q_HO374, Q_HO377, Q_X12_, fun _ => rfl⟩
                    exact steps_nil
                  rintro b a w37 hall ⟨v367, v370, v373, v376, m12_, m13_, ha, Q_HO_19, Q_HO_360000, Q_HO_360001, Q_HO_361000, Q_HO_361001, Q_BK359, Q_BK360, Q_HB, Q_HO368, Q_HO371, Q_HO374, Q_HO377, Q_X12_, Q_X13_⟩
                  clear BK359 BK360 HB HO_19 HO_360000 HO_360001 HO_361000 HO_361001
                  have hb1_ := hall 1 (by kernel_rfl)
                  have hb3_ := hall 3 (by kernel_rfl)
                  have hb4_ := hall 4 (by kernel_rfl)
                  have hb5_ := hall 5 (by kernel_rfl)
                  have hb7_ := hall 7 (by kernel_rfl)
                  have hb9_ := hall 9 (by kernel_rfl)
                  have hb10_ := hall 10 (by kernel_rfl)
                  have hb11_ := hall 11 (by kernel_rfl)
                  have hb12_ := hall 12 (by kernel_rfl)
                  have hb13_ := hall 13 (by kernel_rfl)
                  subst ha
                  obtain rfl := Q_X12_ hb12_
                  obtain rfl := Q_X13_ hb13_
                  simp only [putSel, hb1_, hb3_, hb4_, hb5_, hb7_, hb9_, hb10_, hb11_, hb12_, hb13_, if_true, Act.put, List.setIfInBounds_toArray, List.set_cons_zero, List.set_cons_succ]
                  have HO_19 := Aside0.mk Q_HO_19
                  clear Q_HO_19
                  have HO_360000 := Aside0.mk Q_HO_360000
                  clear Q_HO_360000
                  have HO_360001 := Aside0.mk Q_HO_360001
                  clear Q_HO_360001
                  have HO_361000 := Aside0.mk Q_HO_361000
                  clear Q_HO_361000
                  have HO_361001 := Aside0.mk Q_HO_361001
                  clear Q_HO_361001
                  have BK359 := Aside0.mk Q_BK359
                  clear Q_BK359
                  have BK360 := Aside0.mk Q_BK360
                  clear Q_BK360
                  have HB := Aside0.mk Q_HB
                  clear Q_HB
                  have HO368 := Aside0.mk (Q_HO368 hb4_)
                  clear Q_HO368
                  have HO371 := Aside0.mk (Q_HO371 hb5_)
                  clear Q_HO371
                  have HO374 := Aside0.mk (Q_HO374 hb10_)
                  clear Q_HO374
                  have HO377 := Aside0.mk (Q_HO377 hb11_)
                  clear Q_HO377
                  clear hall hb1_ hb3_ hb4_ hb5_ hb7_ hb9_ hb10_ hb11_ hb12_ hb13_
                  try go_wp2
                  have n0_ := Aside0.mk (Kd.N_drew HO_19.out)
                  have n1_ := Aside0.mk (Kd.V_drew HO_360000.out)
                  have n2_ := Aside0.mk (Kd.V_drew HO_360001.out)
                  have n3_ := Aside0.mk (Kd.V_drew HO_361000.out)
                  have n4_ := Aside0.mk (Kd.V_drew HO_361001.out)
                  have n5_ := Aside0.mk (Kd.N_drew HO368.out)
                  have n6_ := Aside0.mk (Kd.N_drew HO371.out)
                  have n7_ := Aside0.mk (Kd.N_drew HO374.out)
                  have n8_ := Aside0.mk (Kd.N_drew HO377.out)
                  have n9_ := Aside0.mk (blk_drew BK359.out)
                  have n10_ := Aside0.mk (blk_drew BK360.out)
                  have n11_ := Aside0.mk (below_drew1 HB.out)
                  clear HO_19
                  clear HO_360000
                  clear HO_360001
                  clear HO_361000
                  clear HO_361001
                  clear HO368
                  clear HO371
                  clear HO374
                  clear HO377
                  clear BK359
                  clear BK360
                  clear HB
                  have HO_19 := n0_
                  have HO_360000 := n1_
                  have HO_360001 := n2_
                  have HO_361000 := n3_
                  have HO_361001 := n4_
                  have HO368 := n5_
                  have HO371 := n6_
                  have HO374 := n7_
                  have HO377 := n8_
                  have BK359 := n9_
                  have BK360 := n10_
                  have HB := n11_
                  clear n0_ n1_ n2_ n3_ n4_ n5_ n6_ n7_ n8_ n9_ n10_ n11_
                  obtain ⟨Ao39, co39, eo39⟩ := Kd.N_slice HO371.out
                  (first | subst eo39 | (injection eo39 with f1_ f2_ f3_; have f4_ := f1_.symm; have f5_ := f3_.symm; clear f1_ f2_ f3_; subst f4_; subst f5_))
                  have p378 : 0 ≤ (0 : Int) := (by omega)
                  have q378 : 0 < (t369.length : Int) := of_decide_eq_true (by first | (with_reducible assumption) | assumption)
                  obtain ⟨ad378, A378_0, c378_0, e378, hx378_0, hl378_0, hi378_0⟩ := at_L3 (Kd.N_reads' HO371.out).2.2 0 p378 q378
                  cases e378
                  obtain ⟨ce378, hce378, hMe378, hcc378⟩ := Kd.N_get HO371.out [] 0 p378 (by first | exact q378 | exact of_decide_eq_true (by first | (with_reducible assumption) | assumption) | (have e_ := (Kd.N_reads' HO371.out).1; omega))
                  obtain ⟨ua378_0, uc378_0, rfl, ul378_0, ge378_0⟩ := Kd.FK_slice_open hMe378
                  have hv378_0 := hcc378 0 _ rfl
                  rw [Nat.add_zero, show ((Kd.slice 3 (Kd.int .i64))).sz = 1 from rfl, Nat.mul_one] at hv378_0
                  replace hv378_0 := Option.some.inj (hv378_0.symm.trans hx378_0)
                  injection hv378_0 with hva_ hvn_ hvc_
                  rw [hva_] at ge378_0
                  rw [hvc_] at ul378_0
                  have HL378_0 := Aside0.mk (show Kd.V (Kd.int .i64) 3 _ w.heap.size _ _ (rd_L3 t369 0) from Kd.V_mk ul378_0 ge378_0)
                  clear hva_ hvn_ hvc_ ge378_0 ul378_0
                  clear hcc378 hce378
                  have qi378 : (0 < t369.length) = True := eq_true (by omega)
                  (try rw [show ((0 : Int)).toNat = 0 from rfl] at hx378_0)
                  (try rw [Addr.add_zero'] at hx378_0)
                  have HR378_0 := Aside0.mk hi378_0
                  have HC378_0 := Aside0.mk hl378_0
                  clear hi378_0 hl378_0
                  replace p378 := eq_true p378
                  replace q378 := eq_true q378
                  obtain ⟨Ao40, co40, eo40⟩ := Kd.N_slice HO377.out
                  (first | subst eo40 | (injection eo40 with f1_ f2_ f3_; have f4_ := f1_.symm; have f5_ := f3_.symm; clear f1_ f2_ f3_; subst f4_; subst f5_))
                  have p379 : 0 ≤ (0 : Int) := (by omega)
                  have q379 : 0 < (t375.length : Int) := of_decide_eq_true (by first | (with_reducible assumption) | assumption)
                  obtain ⟨ad379, A379_0, c379_0, e379, hx379_0, hl379_0, hi379_0⟩ := at_L3 (Kd.N_reads' HO377.out).2.2 0 p379 q379
                  cases e379
                  obtain ⟨ce379, hce379, hMe379, hcc379⟩ := Kd.N_get HO377.out [] 0 p379 (by first | exact q379 | exact of_decide_eq_true (by first | (with_reducible assumption) | assumption) | (have e_ := (Kd.N_reads' HO377.out).1; omega))
                  obtain ⟨ua379_0, uc379_0, rfl, ul379_0, ge379_0⟩ := Kd.FK_slice_open hMe379
                  have hv379_0 := hcc379 0 _ rfl
                  rw [Nat.add_zero, show ((Kd.slice 3 (Kd.int .i64))).sz = 1 from rfl, Nat.mul_one] at hv379_0
                  replace hv379_0 := Option.some.inj (hv379_0.symm.trans hx379_0)
                  injection hv379_0 with hva_ hvn_ hvc_
                  rw [hva_] at ge379_0
                  rw [hvc_] at ul379_0
                  have HL379_0 := Aside0.mk (show Kd.V (Kd.int .i64) 3 _ w.heap.size _ _ (rd_L3 t375 0) from Kd.V_mk ul379_0 ge379_0)
                  clear hva_ hvn_ hvc_ ge379_0 ul379_0
                  clear hcc379 hce379
                  have qi379 : (0 < t375.length) = True := eq_true (by omega)
                  (try rw [show ((0 : Int)).toNat = 0 from rfl] at hx379_0)
                  (try rw [Addr.add_zero'] at hx379_0)
                  have HR379_0 := Aside0.mk hi379_0
                  have HC379_0 := Aside0.mk hl379_0
                  clear hi379_0 hl379_0
                  replace p379 := eq_true p379
                  replace q379 := eq_true q379
                  have p381 : 0 ≤ (1 : Int) := (by omega)
                  have q381 : 1 < (t369.length : Int) := of_decide_eq_true (by first | (with_reducible assumption) | assumption)
                  obtain ⟨ad381, A381_0, c381_0, e381, hx381_0, hl381_0, hi381_0⟩ := at_L3 (Kd.N_reads' HO371.out).2.2 1 p381 q381
                  obtain rfl : ad378 = ad381 := (by injection e381)
                  obtain ⟨ce381, hce381, hMe381, hcc381⟩ := Kd.N_get HO371.out [] 1 p381 (by first | exact q381 | exact of_decide_eq_true (by first | (with_reducible assumption) | assumption) | (have e_ := (Kd.N_reads' HO371.out).1; omega))
                  obtain ⟨ua381_0, uc381_0, rfl, ul381_0, ge381_0⟩ := Kd.FK_slice_open hMe381
                  have hv381_0 := hcc381 0 _ rfl
                  rw [Nat.add_zero, show ((Kd.slice 3 (Kd.int .i64))).sz = 1 from rfl, Nat.mul_one] at hv381_0
                  replace hv381_0 := Option.some.inj (hv381_0.symm.trans hx381_0)
                  injection hv381_0 with hva_ hvn_ hvc_
                  rw [hva_] at ge381_0
                  rw [hvc_] at ul381_0
                  have HL381_0 := Aside0.mk (show Kd.V (Kd.int .i64) 3 _ w.heap.size _ _ (rd_L3 t369 1) from Kd.V_mk ul381_0 ge381_0)
                  clear hva_ hvn_ hvc_ ge381_0 ul381_0
                  clear hcc381 hce381
                  (try simp only [show (1 : Int).toNat = 1 from rfl, Nat.reduceMul, Nat.reduceEqDiff, Go.Addr.add, ↓reduceIte] at hx381_0)
                  have qi381 : (1 < t369.length) = True := eq_true (by omega)
                  (try rw [show ((1 : Int)).toNat = 1 from rfl] at hx381_0)
                  have HR381_0 := Aside0.mk hi381_0
                  have HC381_0 := Aside0.mk hl381_0
                  clear hi381_0 hl381_0
                  replace p381 := eq_true p381
                  replace q381 := eq_true q381
                  have p382 : 0 ≤ (1 : Int) := (by omega)
                  have q382 : 1 < (t375.length : Int) := of_decide_eq_true (by first | (with_reducible assumption) | assumption)
                  obtain ⟨ad382, A382_0, c382_0, e382, hx382_0, hl382_0, hi382_0⟩ := at_L3 (Kd.N_reads' HO377.out).2.2 1 p382 q382
                  obtain rfl : ad379 = ad382 := (by injection e382)
                  obtain ⟨ce382, hce382, hMe382, hcc382⟩ := Kd.N_get HO377.out [] 1 p382 (by first | exact q382 | exact of_decide_eq_true (by first | (with_reducible assumption) | assumption) | (have e_ := (Kd.N_reads' HO377.out).1; omega))
                  obtain ⟨ua382_0, uc382_0, rfl, ul382_0, ge382_0⟩ := Kd.FK_slice_open hMe382
                  have hv382_0 := hcc382 0 _ rfl
                  rw [Nat.add_zero, show ((Kd.slice 3 (Kd.int .i64))).sz = 1 from rfl, Nat.mul_one] at hv382_0
                  replace hv382_0 := Option.some.inj (hv382_0.symm.trans hx382_0)
                  injection hv382_0 with hva_ hvn_ hvc_
                  rw [hva_] at ge382_0
                  rw [hvc_] at ul382_0
                  have HL382_0 := Aside0.mk (show Kd.V (Kd.int .i64) 3 _ w.heap.size _ _ (rd_L3 t375 1) from Kd.V_mk ul382_0 ge382_0)
                  clear hva_ hvn_ hvc_ ge382_0 ul382_0
                  clear hcc382 hce382
                  (try simp only [show (1 : Int).toNat = 1 from rfl, Nat.reduceMul, Nat.reduceEqDiff, Go.Addr.add, ↓reduceIte] at hx382_0)
                  have qi382 : (1 < t375.length) = True := eq_true (by omega)
                  (try rw [show ((1 : Int)).toNat = 1 from rfl] at hx382_0)
                  have HR382_0 := Aside0.mk hi382_0
                  have HC382_0 := Aside0.mk hl382_0
                  clear hi382_0 hl382_0
                  replace p382 := eq_true p382
                  replace q382 := eq_true q382
                  refine start_ (n := 17) (S := fun w' => w'.cell? ad378 = some (.slice A378_0 (rd_L3 t369 0).length c378_0) ∧ w'.cell? ad379 = some (.slice A379_0 (rd_L3 t375 0).length c379_0) ∧ w'.cell? ⟨ad378.block, ad378.off + 1, none⟩ = some (.slice A381_0 (rd_L3 t369 1).length c381_0) ∧ w'.cell? ⟨ad379.block, ad379.off + 1, none⟩ = some (.slice A382_0 (rd_L3 t375 1).length c382_0)) (ds := []) #[false, false, false, false, false, false, false, false, false, false, false, false, false, false, false, false, false] (by kernel_rfl) rfl rfl ⟨hx378_0, hx379_0, hx381_0, hx382_0⟩ (fun hHeld => ?_); refine with_tabW match_Variant.tab8 match_Variant.bits8 (fun HT_ HW_ => ?_)
                  generalize w37.drew = w38 at HO_19 HO_360000 HO_360001 HO_361000 HO_361001 HO368 HO371 HO374 HO377 BK359 BK360 HB HL378_0 HL379_0 HL381_0 HL382_0 HR378_0 HR379_0 HR381_0 HR382_0 hx378_0 hx379_0 hx381_0 hx382_0 hHeld ⊢
                  refine pure_ (i := 0) (N := some 42) (v := ?_) (a' := ?_) #[true, false, false, false, false, false, false, false, false, false, false, false, false, false, false, false, false] rfl rfl (any_of HT_.out (by kernel_rfl)) (fun _ _ _ h => h) (Or.inl ⟨by rfl, ?_⟩) ?_ ?_
                  rotate_left
                  · intro w'
                    go_simp
                    with_reducible rfl
                  rotate_left
                  · simp only [Act.put, List.setIfInBounds_toArray, List.set_cons_zero, List.set_cons_succ, i64_w, i32_w]
                    rfl
                  refine pure_ (i := 1) (N := some 43) (v := ?_) (a' := ?_) #[true, true, false, false, false, false, false, false, false, false, false, false, false, false, false, false, false] rfl rfl (any_of HT_.out (by kernel_rfl)) (fun _ _ _ h => h) (Or.inl ⟨by rfl, ?_⟩) ?_ ?_
                  rotate_left
                  · intro w'
                    go_simp
                    with_reducible rfl
                  rotate_left
                  · simp only [Act.put, List.setIfInBounds_toArray, List.set_cons_zero, List.set_cons_succ, i64_w, i32_w]
                    rfl
                  refine pure_ (i := 3) (N := some 45) (v := ?_) (a' := ?_) #[true, true, false, true, false, false, false, false, false, false, false, false, false, false, false, false, false] rfl rfl (any_of HT_.out (by kernel_rfl)) (fun _ _ _ h => h) (Or.inl ⟨by rfl, ?_⟩) ?_ ?_
                  rotate_left
                  · intro w'
                    go_simp
                    with_reducible rfl
                  rotate_left
                  · simp only [Act.put, List.setIfInBounds_toArray, List.set_cons_zero, List.set_cons_succ, i64_w, i32_w]
                    rfl
                  refine pure_ (i := 4) (N := some 46) (v := ?_) (a' := ?_) #[true, true, false, true, true, false, false, false, false, false, false, false, false, false, false, false, false] rfl rfl (any_of HT_.out (by kernel_rfl)) (fun _ _ _ h => h) (Or.inl ⟨by rfl, ?_⟩) ?_ ?_
                  rotate_left
                  · intro w'
                    go_simp
                    with_reducible rfl
                  rotate_left
                  · simp only [Act.put, List.setIfInBounds_toArray, List.set_cons_zero, List.set_cons_succ, i64_w, i32_w]
                    rfl
                  refine take_ (i := 2) (N := some 44) (v := ?_) (a' := ?_) #[true, true, true, true, true, false, false, false, false, false, false, false, false, false, false, false, false] rfl rfl (take_ofW HT_.out HW_.out (by kernel_rfl)) (fun _ _ _ h => h) (Or.inl ⟨by rfl, ?_⟩) hHeld ?_ ?_
                  rotate_left
                  · rintro w' ⟨s0, s1, s2, s3⟩
                    go_simp
                    with_reducible rfl
                  rotate_left
                  · simp only [Act.put, List.setIfInBounds_toArray, List.set_cons_zero, List.set_cons_succ, i64_w, i32_w]
                    rfl
                  refine take_ (i := 5) (N := some 47) (v := ?_) (a' := ?_) #[true, true, true, true, true, true, false, false, false, false, false, false, false, false, false, false, false] rfl rfl (take_ofW HT_.out HW_.out (by kernel_rfl)) (fun _ _ _ h => h) (Or.inl ⟨by rfl, ?_⟩) hHeld ?_ ?_
                  rotate_left
                  · rintro w' ⟨s0, s1, s2, s3⟩
                    go_simp
                    with_reducible rfl
                  rotate_left
                  · simp only [Act.put, List.setIfInBounds_toArray, List.set_cons_zero, List.set_cons_succ, i64_w, i32_w]
                    rfl
                  refine one_ (i := 6) (N := some 48) #[true, true, true, true, true, true, true, false, false, false, false, false, false, false, false, false, false] rfl rfl (one_of HT_.out (by kernel_rfl)) (by decide) (fun K hK => ?_)
                  refine goes_ Tryd.func33 (by kernel_rfl) rfl #[.slice A378_0 (rd_L3 t369 0).length c378_0, .slice A379_0 (rd_L3 t375 0).length c379_0] (by rfl) rfl rfl (by (try simp only [List.map_toArray, List.map_cons, List.map_nil]); first | done | rfl | (simp only [List.length_drop, List.length_take]; rfl)) ?_
                  with_reducible refine (slices_Equal_int_int.calls k1 _ _ (rd_L3 t369 0) _ _ (rd_L3 t375 0) true _ ?side1 ?side2 ?side3 ?side4 A23.out).mono ?_
                  (case side1 => repeat (first | exact (by repeat (first | (with_reducible exact HR378_0.out) | (with_reducible refine Kd.C_alloc ?_ _) | (with_reducible refine Kd.C_drewN ?_ _) | (with_reducible refine Kd.C_drew ?_) | exact HR378_0.out)) | (with_reducible refine Kd.C_alloc ?_ _) | (with_reducible refine Kd.C_drewN ?_ _) | (with_reducible refine Kd.C_drew ?_)))
                  (case side2 => exact HC378_0.out)
                  (case side3 => repeat (first | exact (by repeat (first | (with_reducible exact HR379_0.out) | (with_reducible refine Kd.C_alloc ?_ _) | (with_reducible refine Kd.C_drewN ?_ _) | (with_reducible refine Kd.C_drew ?_) | exact HR379_0.out)) | (with_reducible refine Kd.C_alloc ?_ _) | (with_reducible refine Kd.C_drewN ?_ _) | (with_reducible refine Kd.C_drew ?_)))
                  (case side4 => exact HC379_0.out)
                  rintro e w' ⟨rfl, ⟨nd, rfl⟩⟩
                  refine ⟨_, rfl, ?_⟩
                  refine hK.out _ _ ⟨hHeld.1, hHeld.2.1, hHeld.2.2.1, hHeld.2.2.2⟩ (fun hHeld => ?_)
                  clear hK K
                  refine norm_ (a' := ?_) ?_ ?_
                  rotate_left
                  · show Act.put _ (some 48) _ = _
                    simp only [Act.put, List.setIfInBounds_toArray, List.set_cons_zero, List.set_cons_succ, i64_w, i32_w]
                    rfl
                  refine pure_ (i := 7) (N := some 49) (v := ?_) (a' := ?_) #[true, true, true, true, true, true, true, true, false, false, false, false, false, false, false, false, false] rfl rfl (any_of HT_.out (by kernel_rfl)) (fun _ _ _ h => h) (Or.inl ⟨by rfl, ?_⟩) ?_ ?_
                  rotate_left
                  · intro w'
                    go_simp
                    with_reducible rfl
                  rotate_left
                  · simp only [Act.put, List.setIfInBounds_toArray, List.set_cons_zero, List.set_cons_succ, i64_w, i32_w]
                    rfl
                  refine pure_ (i := 8) (N := some 50) (v := ?_) (a' := ?_) #[true, true, true, true, true, true, true, true, true, false, false, false, false, false, false, false, false] rfl rfl (any_of HT_.out (by kernel_rfl)) (fun _ _ _ h => h) (Or.inl ⟨by rfl, ?_⟩) ?_ ?_
                  rotate_left
                  · intro w'
                    go_simp
                    with_reducible rfl
                  rotate_left
                  · simp only [Act.put, List.setIfInBounds_toArray, List.set_cons_zero, List.set_cons_succ, i64_w, i32_w]
                    rfl
                  refine pure_ (i := 9) (N := some 51) (v := ?_) (a' := ?_) #[true, true, true, true, true, true, true, true, true, true, false, false, false, false, false, false, false] rfl rfl (any_of HT_.out (by kernel_rfl)) (fun _ _ _ h => h) (Or.inl ⟨by rfl, ?_⟩) ?_ ?_
                  rotate_left
                  · intro w'
                    go_simp
                    with_reducible rfl
                  rotate_left
                  · simp only [Act.put, List.setIfInBounds_toArray, List.set_cons_zero, List.set_cons_succ, i64_w, i32_w]
                    rfl
                  refine pure_ (i := 11) (N := some 53) (v := ?_) (a' := ?_) #[true, true, true, true, true, true, true, true, true, true, false, true, false, false, false, false, false] rfl rfl (any_of HT_.out (by kernel_rfl)) (fun _ _ _ h => h) (Or.inl ⟨by rfl, ?_⟩) ?_ ?_
                  rotate_left
                  · intro w'
                    go_simp
                    with_reducible rfl
                  rotate_left
                  · simp only [Act.put, List.setIfInBounds_toArray, List.set_cons_zero, List.set_cons_succ, i64_w, i32_w]
                    rfl
                  refine pure_ (i := 12) (N := some 54) (v := ?_) (a' := ?_) #[true, true, true, true, true, true, true, true, true, true, false, true, true, false, false, false, false] rfl rfl (any_of HT_.out (by kernel_rfl)) (fun _ _ _ h => h) (Or.inl ⟨by rfl, ?_⟩) ?_ ?_
                  rotate_left
                  · intro w'
                    go_simp
                    with_reducible rfl
                  rotate_left
                  · simp only [Act.put, List.setIfInBounds_toArray, List.set_cons_zero, List.set_cons_succ, i64_w, i32_w]
                    rfl
                  refine take_ (i := 10) (N := some 52) (v := ?_) (a' := ?_) #[true, true, true, true, true, true, true, true, true, true, true, true, true, false, false, false, false] rfl rfl (take_ofW HT_.out HW_.out (by kernel_rfl)) (fun _ _ _ h => h) (Or.inl ⟨by rfl, ?_⟩) hHeld ?_ ?_
                  rotate_left
                  · rintro w' ⟨s0, s1, s2, s3⟩
                    go_simp
                    with_reducible rfl
                  rotate_left
                  · simp only [Act.put, List.setIfInBounds_toArray, List.set_cons_zero, List.set_cons_succ, i64_w, i32_w]
                    rfl
                  refine take_ (i := 13) (N := some 55) (v := ?_) (a' := ?_) #[true, true, true, true, true, true, true, true, true, true, true, true, true, true, false, false, false] rfl rfl (take_ofW HT_.out HW_.out (by kernel_rfl)) (fun _ _ _ h => h) (Or.inl ⟨by rfl, ?_⟩) hHeld ?_ ?_
                  rotate_left
                  · rintro w' ⟨s0, s1, s2, s3⟩
                    go_simp
                    with_reducible rfl
                  rotate_left
                  · simp only [Act.put, List.setIfInBounds_toArray, List.set_cons_zero, List.set_cons_succ, i64_w, i32_w]
                    rfl
                  refine one_ (i := 14) (N := some 56) #[true, true, true, true, true, true, true, true, true, true, true, true, true, true, true, false, false] rfl rfl (one_of HT_.out (by kernel_rfl)) (by decide) (fun K hK => ?_)
                  refine goes_ Tryd.func33 (by kernel_rfl) rfl #[.slice A381_0 (rd_L3 t369 1).length c381_0, .slice A382_0 (rd_L3 t375 1).length c382_0] (by rfl) rfl rfl (by (try simp only [List.map_toArray, List.map_cons, List.map_nil]); first | done | rfl | (simp only [List.length_drop, List.length_take]; rfl)) ?_
                  with_reducible refine (slices_Equal_int_int.calls k1 _ _ (rd_L3 t369 1) _ _ (rd_L3 t375 1) t383 _ ?side1 ?side2 ?side3 ?side4 A27.out).mono ?_
                  (case side1 => repeat (first | exact (by repeat (first | (with_reducible exact HR381_0.out) | (with_reducible refine Kd.C_alloc ?_ _) | (with_reducible refine Kd.C_drewN ?_ _) | (with_reducible refine Kd.C_drew ?_) | exact HR381_0.out)) | (with_reducible refine Kd.C_alloc ?_ _) | (with_reducible refine Kd.C_drewN ?_ _) | (with_reducible refine Kd.C_drew ?_)))
                  (case side2 => exact HC381_0.out)
                  (case side3 => repeat (first | exact (by repeat (first | (with_reducible exact HR382_0.out) | (with_reducible refine Kd.C_alloc ?_ _) | (with_reducible refine Kd.C_drewN ?_ _) | (with_reducible refine Kd.C_drew ?_) | exact HR382_0.out)) | (with_reducible refine Kd.C_alloc ?_ _) | (with_reducible refine Kd.C_drewN ?_ _) | (with_reducible refine Kd.C_drew ?_)))
                  (case side4 => exact HC382_0.out)
                  rintro e w' ⟨rfl, ⟨nd, rfl⟩⟩
                  refine ⟨_, rfl, ?_⟩
                  refine hK.out _ _ ⟨hHeld.1, hHeld.2.1, hHeld.2.2.1, hHeld.2.2.2⟩ (fun hHeld => ?_)
                  clear hK K
                  refine norm_ (a' := ?_) ?_ ?_
                  rotate_left
                  · show Act.put _ (some 56) _ = _
                    simp only [Act.put, List.setIfInBounds_toArray, List.set_cons_zero, List.set_cons_succ, i64_w, i32_w]
                    rfl
                  refine pure_ (i := 15) (N := some 57) (v := ?_) (a' := ?_) #[true, true, true, true, true, true, true, true, true, true, true, true, true, true, true, true, false] rfl rfl (any_of HT_.out (by kernel_rfl)) (fun _ _ _ h => h) (Or.inl ⟨by rfl, ?_⟩) ?_ ?_
                  rotate_left
                  · intro w'
                    go_simp
                    with_reducible rfl
                  rotate_left
                  · simp only [Act.put, List.setIfInBounds_toArray, List.set_cons_zero, List.set_cons_succ, i64_w, i32_w]
                    rfl
                  refine pure_ (i := 16) (N := some 6) (v := ?_) (a' := ?_) #[true, true, true, true, true, true, true, true, true, true, true, true, true, true, true, true, true] rfl rfl (any_of HT_.out (by kernel_rfl)) (fun _ _ _ h => h) (Or.inl ⟨by rfl, ?_⟩) ?_ ?_
                  rotate_left
                  · intro w'
                    go_simp
                    with_reducible rfl
                  rotate_left
                  · simp only [Act.put, List.setIfInBounds_toArray, List.set_cons_zero, List.set_cons_succ, i64_w, i32_w]
                    rfl
                  refine done_ (done_of HT_.out (by kernel_rfl)) ?_
                  try go_wp2
                  go_ret
                  exact ⟨by first | rfl | (simp [errW_none, errW_some] <;> rfl) | (simp [*, errW_none, errW_some] <;> rfl), by repeat (first | (with_reducible first | exact HB.out | apply below_alloc | apply pw_below_drewN | apply below_drew1 | refine below_set ?_ GE359.out | refine below_set ?_ GE360.out) | exact HB.out)⟩
                · rw [if_neg c26] at H
                  exact absurd H (by simp)
              · rw [if_neg c25] at H
                exact absurd H (by simp)
            · replace c24 := Bool.eq_false_iff.mpr c24
              subst c24
              have H1 : (some false) = some r := by rw [if_neg (show ¬ (false = true) by decide)] at H; exact H
              clear H
              have H := H1
              clear H1
              obtain rfl := Option.some.inj H
              try go_wp2
              have n0_ := Aside0.mk (Kd.N_drew HO_19.out)
              have n1_ := Aside0.mk (Kd.V_drew HO_360000.out)
              have n2_ := Aside0.mk (Kd.V_drew HO_360001.out)
              have n3_ := Aside0.mk (Kd.V_drew HO_361000.out)
              have n4_ := Aside0.mk (Kd.V_drew HO_361001.out)
              have n5_ := Aside0.mk (blk_drew BK359.out)
              have n6_ := Aside0.mk (blk_drew BK360.out)
              have n7_ := Aside0.mk (below_drew1 HB.out)
              clear HO_19
              clear HO_360000
              clear HO_360001
              clear HO_361000
              clear HO_361001
              clear BK359
              clear BK360
              clear HB
              have HO_19 := n0_
              have HO_360000 := n1_
              have HO_360001 := n2_
              have HO_361000 := n3_
              have HO_361001 := n4_
              have BK359 := n5_
              have BK360 := n6_
              have HB := n7_
              clear n0_ n1_ n2_ n3_ n4_ n5_ n6_ n7_
              refine start_ (n := 14) (S := fun w' => True) (ds := []) #[false, false, false, false, false, false, false, false, false, false, false, false, false, false] (by kernel_rfl) rfl rfl trivial (fun hHeld => ?_); refine with_tabW match_Variant.tab7 match_Variant.bits7 (fun HT_ HW_ => ?_)
              generalize wr.drew = w41 at HO_19 HO_360000 HO_360001 HO_361000 HO_361001 BK359 BK360 HB hHeld ⊢
              refine pure_ (i := 0) (N := some 30) (v := ?_) (a' := ?_) #[true, false, false, false, false, false, false, false, false, false, false, false, false, false] rfl rfl (any_of HT_.out (by kernel_rfl)) (fun _ _ _ h => h) (Or.inl ⟨by rfl, ?_⟩) ?_ ?_
              rotate_left
              · intro w'
                go_simp
                with_reducible rfl
              rotate_left
              · simp only [Act.put, List.setIfInBounds_toArray, List.set_cons_zero, List.set_cons_succ, i64_w, i32_w]
                rfl
              refine pure_ (i := 2) (N := some 32) (v := ?_) (a' := ?_) #[true, false, true, false, false, false, false, false, false, false, false, false, false, false] rfl rfl (any_of HT_.out (by kernel_rfl)) (fun _ _ _ h => h) (Or.inl ⟨by rfl, ?_⟩) ?_ ?_
              rotate_left
              · intro w'
                go_simp
                with_reducible rfl
              rotate_left
              · simp only [Act.put, List.setIfInBounds_toArray, List.set_cons_zero, List.set_cons_succ, i64_w, i32_w]
                rfl
              refine pure_ (i := 6) (N := some 36) (v := ?_) (a' := ?_) #[true, false, true, false, false, false, true, false, false, false, false, false, false, false] rfl rfl (any_of HT_.out (by kernel_rfl)) (fun _ _ _ h => h) (Or.inl ⟨by rfl, ?_⟩) ?_ ?_
              rotate_left
              · intro w'
                go_simp
                with_reducible rfl
              rotate_left
              · simp only [Act.put, List.setIfInBounds_toArray, List.set_cons_zero, List.set_cons_succ, i64_w, i32_w]
                rfl
              refine pure_ (i := 8) (N := some 38) (v := ?_) (a' := ?_) #[true, false, true, false, false, false, true, false, true, false, false, false, false, false] rfl rfl (any_of HT_.out (by kernel_rfl)) (fun _ _ _ h => h) (Or.inl ⟨by rfl, ?_⟩) ?_ ?_
              rotate_left
              · intro w'
                go_simp
                with_reducible rfl
              rotate_left
              · simp only [Act.put, List.setIfInBounds_toArray, List.set_cons_zero, List.set_cons_succ, i64_w, i32_w]
                rfl
              refine inv_at [1, 3, 4, 5, 7, 9, 10, 11, 12, 13] (fun a0_ b a w' => ∃ (v367 : Value) (v370 : Value) (v373 : Value) (v376 : Value) (m12_ : Value) (m13_ : Value), a = putSel a0_ b [(1, 31, .slice A1_0 l1_0.length c1_0), (3, 33, .slice A1_1 l1_1.length c1_1), (4, 34, v367), (5, 35, v370), (7, 37, .slice A2_0 l2_0.length c2_0), (9, 39, .slice A2_1 l2_1.length c2_1), (10, 40, v373), (11, 41, v376), (12, 9, m12_), (13, 10, m13_)] ∧ (Kd.N (Kd.slice 3 (Kd.int .i64)) 23 w' w.heap.size (fun k_ => ((P1_0_ k_ ∨ P1_1_ k_ ∨ P2_0_ k_ ∨ P2_1_ k_) ∨ w.heap.size ≤ k_) ∧ k_ ≠ gb359 ∧ k_ ≠ gb360) (.slice Ao11 y361.length co11) y361) ∧ (Kd.V (Kd.int .i64) 3 w' w.heap.size (fun k_ => ((P1_0_ k_ ∨ P1_1_ k_ ∨ P2_0_ k_ ∨ P2_1_ k_) ∨ w.heap.size ≤ k_) ∧ some k_ ≠ (.slice Ao11 y361.length co11 : Value).ownBlock ∧ k_ ≠ gb359 ∧ k_ ≠ gb360) (.slice A1_0 l1_0.length c1_0) l1_0) ∧ (Kd.V (Kd.int .i64) 3 w' w.heap.size (fun k_ => ((P1_0_ k_ ∨ P1_1_ k_ ∨ P2_0_ k_ ∨ P2_1_ k_) ∨ w.heap.size ≤ k_) ∧ some k_ ≠ (.slice Ao11 y361.length co11 : Value).ownBlock ∧ k_ ≠ gb359 ∧ k_ ≠ gb360) (.slice A1_1 l1_1.length c1_1) l1_1) ∧ (Kd.V (Kd.int .i64) 3 w' w.heap.size (fun k_ => ((P1_0_ k_ ∨ P1_1_ k_ ∨ P2_0_ k_ ∨ P2_1_ k_) ∨ w.heap.size ≤ k_) ∧ some k_ ≠ (.slice Ao11 y361.length co11 : Value).ownBlock ∧ k_ ≠ gb359 ∧ k_ ≠ gb360) (.slice A2_0 l2_0.length c2_0) l2_0) ∧ (Kd.V (Kd.int .i64) 3 w' w.heap.size (fun k_ => ((P1_0_ k_ ∨ P1_1_ k_ ∨ P2_0_ k_ ∨ P2_1_ k_) ∨ w.heap.size ≤ k_) ∧ some k_ ≠ (.slice Ao11 y361.length co11 : Value).ownBlock ∧ k_ ≠ gb359 ∧ k_ ≠ gb360) (.slice A2_1 l2_1.length c2_1) l2_1) ∧ (w'.heap[gb359]? = some (.cells #[.slice A1_0 l1_0.length c1_0, .slice A1_1 l1_1.length c1_1] 46 (0, 0))) ∧ (w'.heap[gb360]? = some (.cells #[.slice A2_0 l2_0.length c2_0, .slice A2_1 l2_1.length c2_1] 46 (0, 0))) ∧ (Below w.heap.size w w') ∧ (b 4 = true → Kd.N (Kd.slice 3 (Kd.int .i64)) 23 w' w.heap.size (fun k_ => ((P1_0_ k_ ∨ P1_1_ k_ ∨ P2_0_ k_ ∨ P2_1_ k_) ∨ w.heap.size ≤ k_) ∧ some k_ ≠ (.slice Ao11 y361.length co11 : Value).ownBlock ∧ k_ ≠ gb359 ∧ k_ ≠ gb360) v367 y366) ∧ (b 5 = true → Kd.N (Kd.slice 3 (Kd.int .i64)) 23 w' w.heap.size (fun k_ => ((P1_0_ k_ ∨ P1_1_ k_ ∨ P2_0_ k_ ∨ P2_1_ k_) ∨ w.heap.size ≤ k_) ∧ some k_ ≠ (.slice Ao11 y361.length co11 : Value).ownBlock ∧ k_ ≠ gb359 ∧ k_ ≠ gb360) v370 t369) ∧ (b 10 = true → Kd.N (Kd.slice 3 (Kd.int .i64)) 23 w' w.heap.size (fun k_ => ((P1_0_ k_ ∨ P1_1_ k_ ∨ P2_0_ k_ ∨ P2_1_ k_) ∨ w.heap.size ≤ k_) ∧ some k_ ≠ (.slice Ao11 y361.length co11 : Value).ownBlock ∧ k_ ≠ gb359 ∧ k_ ≠ gb360) v373 y372) ∧ (b 11 = true → Kd.N (Kd.slice 3 (Kd.int .i64)) 23 w' w.heap.size (fun k_ => ((P1_0_ k_ ∨ P1_1_ k_ ∨ P2_0_ k_ ∨ P2_1_ k_) ∨ w.heap.size ≤ k_) ∧ some k_ ≠ (.slice Ao11 y361.length co11 : Value).ownBlock ∧ k_ ≠ gb359 ∧ k_ ≠ gb360) v376 t375) ∧ (b 12 = true → (m12_ : Value) = v370) ∧ (b 13 = true → (m13_ : Value) = v376)) HT_.out HW_.out (by kernel_rfl) (by kernel_rfl) ?_ ?_ ?_
              · exact ⟨.bool false, .bool false, .bool false, .bool false, .bool false, .bool false, by simp only [putSel, Bool.false_eq_true, if_false], HO_19.out, HO_360000.out, HO_360001.out, HO_361000.out, HO_361001.out, BK359.out, BK360.out, HB.out, fun h_ => absurd h_ (by decide), fun h_ => absurd h_ (by decide), fun h_ => absurd h_ (by decide), fun h_ => absurd h_ (by decide), fun h_ => absurd h_ (by decide), fun h_ => absurd h_ (by decide)⟩
              · skip
                clear BK359 BK360 HB HO_19 HO_360000 HO_360001 HO_361000 HO_361001
                refine steps_cons ?_ ?_
                · rintro b a w' ⟨v367, v370, v373, v376, m12_, m13_, ha, Q_HO_19, Q_HO_360000, Q_HO_360001, Q_HO_361000, Q_HO_361001, Q_BK359, Q_BK360, Q_HB, Q_HO368, Q_HO371, Q_HO374, Q_HO377, Q_X12_, Q_X13_⟩ hb_ hon hoff
                  refine ⟨_, rfl, fun K hK => ?_⟩
                  have e30 : a.tmps[30]? = some (.pointer (some ⟨gb359, 0, none⟩)) := by rw [ha]; exact (putSel_off rfl).trans rfl
                  replace ha := Aside0.mk ha
                  have HO_19 := Aside0.mk Q_HO_19
                  have HO_360000 := Aside0.mk Q_HO_360000
                  have HO_360001 := Aside0.mk Q_HO_360001
                  have HO_361000 := Aside0.mk Q_HO_361000
                  have HO_361001 := Aside0.mk Q_HO_361001
                  have BK359 := Aside0.mk Q_BK359
                  have BK360 := Aside0.mk Q_BK360
                  have HB := Aside0.mk Q_HB
                  have hc0_ : w'.cell? ⟨gb359, 0, none⟩ = some (.slice A1_0 l1_0.length c1_0) := (blk_cell BK359.out 0).trans rfl
                  have hc1_ : w'.cell? ⟨gb359, 1, none⟩ = some (.slice A1_1 l1_1.length c1_1) := (blk_cell BK359.out 1).trans rfl
                  refine value_ (w1 := w') (v := .slice A1_0 l1_0.length c1_0) (by rfl) rfl ?_ ?_
                  · go_simp
                    (try simp only [i64_w])
                    try rfl
                  refine hK.out _ _ ⟨v367, v370, v373, v376, m12_, m13_, (by rw [ha.out]; exact putSel_upk 0 hb_ rfl rfl rfl), Q_HO_19, Q_HO_360000, Q_HO_360001, Q_HO_361000, Q_HO_361001, Q_BK359, Q_BK360, Q_HB, fun h0_ => absurd ((hoff 4 (by kernel_rfl)).symm.trans h0_) (by decide), fun h0_ => absurd ((hoff 5 (by kernel_rfl)).symm.trans h0_) (by decide), Q_HO374, fun h0_ => absurd ((hoff 11 (by kernel_rfl)).symm.trans h0_) (by decide), fun h0_ => absurd ((hoff 12 (by kernel_rfl)).symm.trans h0_) (by decide), fun h0_ => absurd ((hoff 13 (by kernel_rfl)).symm.trans h0_) (by decide)⟩
                refine steps_cons ?_ ?_
                · rintro b a w' ⟨v367, v370, v373, v376, m12_, m13_, ha, Q_HO_19, Q_HO_360000, Q_HO_360001, Q_HO_361000, Q_HO_361001, Q_BK359, Q_BK360, Q_HB, Q_HO368, Q_HO371, Q_HO374, Q_HO377, Q_X12_, Q_X13_⟩ hb_ hon hoff
                  refine ⟨_, rfl, fun K hK => ?_⟩
                  have e32 : a.tmps[32]? = some (.pointer (some ⟨gb359, 1, none⟩)) := by rw [ha]; exact (putSel_off rfl).trans rfl
                  replace ha := Aside0.mk ha
                  have HO_19 := Aside0.mk Q_HO_19
                  have HO_360000 := Aside0.mk Q_HO_360000
                  have HO_360001 := Aside0.mk Q_HO_360001
                  have HO_361000 := Aside0.mk Q_HO_361000
                  have HO_361001 := Aside0.mk Q_HO_361001
                  have BK359 := Aside0.mk Q_BK359
                  have BK360 := Aside0.mk Q_BK360
                  have HB := Aside0.mk Q_HB
                  have hc0_ : w'.cell? ⟨gb359, 0, none⟩ = some (.slice A1_0 l1_0.length c1_0) := (blk_cell BK359.out 0).trans rfl
                  have hc1_ : w'.cell? ⟨gb359, 1, none⟩ = some (.slice A1_1 l1_1.length c1_1) := (blk_cell BK359.out 1).trans rfl
                  refine value_ (w1 := w') (v := .slice A1_1 l1_1.length c1_1) (by rfl) rfl ?_ ?_
                  · go_simp
                    (try simp only [i64_w])
                    try rfl
                  refine hK.out _ _ ⟨v367, v370, v373, v376, m12_, m13_, (by rw [ha.out]; exact putSel_upk 1 hb_ rfl rfl rfl), Q_HO_19, Q_HO_360000, Q_HO_360001, Q_HO_361000, Q_HO_361001, Q_BK359, Q_BK360, Q_HB, fun h0_ => absurd ((hoff 4 (by kernel_rfl)).symm.trans h0_) (by decide), fun h0_ => absurd ((hoff 5 (by kernel_rfl)).symm.trans h0_) (by decide), Q_HO374, fun h0_ => absurd ((hoff 11 (by kernel_rfl)).symm.trans h0_) (by decide), fun h0_ => absurd ((hoff 12 (by kernel_rfl)).symm.trans h0_) (by decide), fun h0_ => absurd ((hoff 13 (by kernel_rfl)).symm.trans h0_) (by decide)⟩
                refine steps_cons ?_ ?_
                · rintro b a w' ⟨v367, v370, v373, v376, m12_, m13_, ha, Q_HO_19, Q_HO_360000, Q_HO_360001, Q_HO_361000, Q_HO_361001, Q_BK359, Q_BK360, Q_HB, Q_HO368, Q_HO371, Q_HO374, Q_HO377, Q_X12_, Q_X13_⟩ hb_ hon hoff
                  refine ⟨_, rfl, fun K hK => ?_⟩
                  have e31 : a.tmps[31]? = some (.slice A1_0 l1_0.length c1_0) := by rw [ha]; exact putSel_on (e := (1, 31, .slice A1_0 l1_0.length c1_0)) 0 rfl rfl (hon 1 (by kernel_rfl)) rfl
                  have e33 : a.tmps[33]? = some (.slice A1_1 l1_1.length c1_1) := by rw [ha]; exact putSel_on (e := (3, 33, .slice A1_1 l1_1.length c1_1)) 1 rfl rfl (hon 3 (by kernel_rfl)) rfl
                  replace ha := Aside0.mk ha
                  have HO_19 := Aside0.mk Q_HO_19
                  have HO_360000 := Aside0.mk Q_HO_360000
                  have HO_360001 := Aside0.mk Q_HO_360001
                  have HO_361000 := Aside0.mk Q_HO_361000
                  have HO_361001 := Aside0.mk Q_HO_361001
                  have BK359 := Aside0.mk Q_BK359
                  have BK360 := Aside0.mk Q_BK360
                  have HB := Aside0.mk Q_HB
                  refine Kd.N_lit_step (Kd.slice 3 (Kd.int .i64)) _ 23 ?hg (N' := 34) ?hd (xs := ([l1_0, l1_1] : List (List Int))) (inner := [.slice A1_0 l1_0.length c1_0, .slice A1_1 l1_1.length c1_1]) (ok := (fun k_ => ((P1_0_ k_ ∨ P1_1_ k_ ∨ P2_0_ k_ ∨ P2_1_ k_) ∨ w.heap.size ≤ k_) ∧ some k_ ≠ (.slice Ao11 y361.length co11 : Value).ownBlock ∧ k_ ≠ gb359 ∧ k_ ≠ gb360)) (okp := (fun k_ => ((P1_0_ k_ ∨ P1_1_ k_ ∨ P2_0_ k_ ∨ P2_1_ k_) ∨ w.heap.size ≤ k_) ∧ some k_ ≠ (.slice Ao11 y361.length co11 : Value).ownBlock ∧ k_ ≠ gb359 ∧ k_ ≠ gb360)) ?hr ?hp (fun _ hk => hk) ((show ∀ k_, w'.heap.size ≤ k_ → (fun k_ => ((P1_0_ k_ ∨ P1_1_ k_ ∨ P2_0_ k_ ∨ P2_1_ k_) ∨ w.heap.size ≤ k_) ∧ some k_ ≠ (.slice Ao11 y361.length co11 : Value).ownBlock ∧ k_ ≠ gb359 ∧ k_ ≠ gb360) k_ from fun k_ hk => ⟨(.inr (Nat.le_trans (below_size (by repeat (first | (with_reducible first | exact HB.out | apply below_alloc | apply pw_below_drewN | apply below_drew1 | refine below_set ?_ GE359.out | refine below_set ?_ GE360.out) | exact HB.out))) hk)), Kd.fresh' (Kd.N_lt (by (with_reducible repeat (first | apply Kd.N_alloc | apply Kd.N_drewN | apply Kd.N_drew)); exact HO_19.out)) k_ hk, Kd.freshB (g := gb359) (o := .cells #[.slice A1_0 l1_0.length c1_0, .slice A1_1 l1_1.length c1_1] 46 (0, 0)) (by (with_reducible repeat (first | refine blk_drewN ?_ _ | refine blk_drew ?_ | refine blk_alloc ?_ _)); exact BK359.out) k_ hk, Kd.freshB (g := gb360) (o := .cells #[.slice A2_0 l2_0.length c2_0, .slice A2_1 l2_1.length c2_1] 46 (0, 0)) (by (with_reducible repeat (first | refine blk_drewN ?_ _ | refine blk_drew ?_ | refine blk_alloc ?_ _)); exact BK360.out) k_ hk⟩) _ (Nat.le_refl _)) (Below.refl _ _) (Nat.le_refl _) (by simp) ?_; (case hd => rfl); (case hg => rfl); (case hr => first | (go_simp; done) | (go_simp; rfl)); (case hp => exact (Reps.one (show Kd.FK (Kd.slice 3 (Kd.int .i64)) _ _ l1_0 [.slice A1_0 l1_0.length c1_0] from (Kd.FK_slice_mk (Kd.V_reads' (Kd.V_mono (ok' := (fun k_ => ((P1_0_ k_ ∨ P1_1_ k_ ∨ P2_0_ k_ ∨ P2_1_ k_) ∨ w.heap.size ≤ k_) ∧ some k_ ≠ (.slice Ao11 y361.length co11 : Value).ownBlock ∧ k_ ≠ gb359 ∧ k_ ≠ gb360)) (HO_360000.out) (fun k_ hk => ⟨hk.1, ⟨hk.2.1, ⟨hk.2.2.1, hk.2.2.2⟩⟩⟩))).2.1 (Kd.V_F (Kd.V_mono (ok' := (fun k_ => ((P1_0_ k_ ∨ P1_1_ k_ ∨ P2_0_ k_ ∨ P2_1_ k_) ∨ w.heap.size ≤ k_) ∧ some k_ ≠ (.slice Ao11 y361.length co11 : Value).ownBlock ∧ k_ ≠ gb359 ∧ k_ ≠ gb360)) (HO_360000.out) (fun k_ hk => ⟨hk.1, ⟨hk.2.1, ⟨hk.2.2.1, hk.2.2.2⟩⟩⟩))))) (Reps.one (show Kd.FK (Kd.slice 3 (Kd.int .i64)) _ _ l1_1 [.slice A1_1 l1_1.length c1_1] from (Kd.FK_slice_mk (Kd.V_reads' (Kd.V_mono (ok' := (fun k_ => ((P1_0_ k_ ∨ P1_1_ k_ ∨ P2_0_ k_ ∨ P2_1_ k_) ∨ w.heap.size ≤ k_) ∧ some k_ ≠ (.slice Ao11 y361.length co11 : Value).ownBlock ∧ k_ ≠ gb359 ∧ k_ ≠ gb360)) (HO_360001.out) (fun k_ hk => ⟨hk.1, ⟨hk.2.1, ⟨hk.2.2.1, hk.2.2.2⟩⟩⟩))).2.1 (Kd.V_F (Kd.V_mono (ok' := (fun k_ => ((P1_0_ k_ ∨ P1_1_ k_ ∨ P2_0_ k_ ∨ P2_1_ k_) ∨ w.heap.size ≤ k_) ∧ some k_ ≠ (.slice Ao11 y361.length co11 : Value).ownBlock ∧ k_ ≠ gb359 ∧ k_ ≠ gb360)) (HO_360001.out) (fun k_ hk => ⟨hk.1, ⟨hk.2.1, ⟨hk.2.2.1, hk.2.2.2⟩⟩⟩))))) (Reps.none _ _))))
                  intro v367 w42 ho43 hb hg_ hnew_
                  clear hg_ hnew_
                  (first | rw [← Ny366.out] at ho43 | (simp only [Int.reduceToNat] at ho43; rw [← Ny366.out] at ho43))
                  have n0_ := Aside0.mk (Kd.N_elder' (by (with_reducible repeat (first | apply Kd.N_alloc | apply Kd.N_drewN | apply Kd.N_drew)); exact HO_19.out) ((by first | exact Kd.N_base ho43 | exact Kd.S_base ho43)) hb)
                  have n1_ := Aside0.mk (Kd.V_elder' (by (with_reducible repeat (first | apply Kd.V_alloc | apply Kd.V_drewN | apply Kd.V_drew)); exact HO_360000.out) ((by first | exact Kd.N_base ho43 | exact Kd.S_base ho43)) hb)
                  have n2_ := Aside0.mk (Kd.V_elder' (by (with_reducible repeat (first | apply Kd.V_alloc | apply Kd.V_drewN | apply Kd.V_drew)); exact HO_360001.out) ((by first | exact Kd.N_base ho43 | exact Kd.S_base ho43)) hb)
                  have n3_ := Aside0.mk (Kd.V_elder' (by (with_reducible repeat (first | apply Kd.V_alloc | apply Kd.V_drewN | apply Kd.V_drew)); exact HO_361000.out) ((by first | exact Kd.N_base ho43 | exact Kd.S_base ho43)) hb)
                  have n4_ := Aside0.mk (Kd.V_elder' (by (with_reducible repeat (first | apply Kd.V_alloc | apply Kd.V_drewN | apply Kd.V_drew)); exact HO_361001.out) ((by first | exact Kd.N_base ho43 | exact Kd.S_base ho43)) hb)
                  have n5_ := Aside0.mk (Kd.N_lower ho43 (below_size (by repeat (first | (with_reducible first | exact HB.out | apply below_alloc | apply pw_below_drewN | apply below_drew1 | refine below_set ?_ GE359.out | refine below_set ?_ GE360.out) | exact HB.out))))
                  have n6_ := Aside0.mk (blk_below (g := gb359) (o := .cells #[.slice A1_0 l1_0.length c1_0, .slice A1_1 l1_1.length c1_1] 46 (0, 0)) (by (with_reducible repeat (first | refine blk_drewN ?_ _ | refine blk_drew ?_ | refine blk_alloc ?_ _)); exact BK359.out) hb)
                  have n7_ := Aside0.mk (blk_below (g := gb360) (o := .cells #[.slice A2_0 l2_0.length c2_0, .slice A2_1 l2_1.length c2_1] 46 (0, 0)) (by (with_reducible repeat (first | refine blk_drewN ?_ _ | refine blk_drew ?_ | refine blk_alloc ?_ _)); exact BK360.out) hb)
                  have n8_ := Aside0.mk (below_step (by repeat (first | (with_reducible first | exact HB.out | apply below_alloc | apply pw_below_drewN | apply below_drew1 | refine below_set ?_ GE359.out | refine below_set ?_ GE360.out) | exact HB.out)) hb)
                  have z_HO374 := fun (h0_ : b 10 = true) => (show Kd.N (Kd.slice 3 (Kd.int .i64)) 23 w42 w.heap.size (fun k_ => ((P1_0_ k_ ∨ P1_1_ k_ ∨ P2_0_ k_ ∨ P2_1_ k_) ∨ w.heap.size ≤ k_) ∧ some k_ ≠ (.slice Ao11 y361.length co11 : Value).ownBlock ∧ k_ ≠ gb359 ∧ k_ ≠ gb360) v373 y372 from by first | exact (Kd.N_elder' (by (with_reducible repeat (first | apply Kd.N_alloc | apply Kd.N_drewN | apply Kd.N_drew)); exact (Q_HO374 h0_)) ((by first | exact Kd.N_base ho43 | exact Kd.S_base ho43)) hb) | exact Kd.N_mono (Kd.N_elder' (by (with_reducible repeat (first | apply Kd.N_alloc | apply Kd.N_drewN | apply Kd.N_drew)); exact (Q_HO374 h0_)) ((by first | exact Kd.N_base ho43 | exact Kd.S_base ho43)) hb) (fun _ h_ => by first | trivial | exact h_ | exact h_.1))
                  clear HO_19
                  clear HO_360000
                  clear HO_360001
                  clear HO_361000
                  clear HO_361001
                  clear BK359
                  clear BK360
                  clear HB
                  have HO_19 := n0_
                  have HO_360000 := n1_
                  have HO_360001 := n2_
                  have HO_361000 := n3_
                  have HO_361001 := n4_
                  have HO368 := n5_
                  have BK359 := n6_
                  have BK360 := n7_
                  have HB := n8_
                  clear n0_ n1_ n2_ n3_ n4_ n5_ n6_ n7_ n8_
                  clear hb ho43
                  refine hK.out _ _ ⟨v367, v370, v373, v376, m12_, m13_, (by rw [ha.out]; exact putSel_upk 2 hb_ rfl rfl rfl), (by (with_reducible repeat (first | apply Kd.N_alloc | apply Kd.N_drewN | apply Kd.N_drew)); exact Kd.N_mono HO_19.out (fun _ hk => by first | exact ⟨hk.1.1, ⟨hk.2, ⟨hk.1.2.1, hk.1.2.2⟩⟩⟩ | grind)), (by (with_reducible repeat (first | apply Kd.V_alloc | apply Kd.V_drewN | apply Kd.V_drew)); exact Kd.V_mono HO_360000.out (fun _ hk => by first | exact ⟨hk.1.1, ⟨hk.2, ⟨hk.1.2.1, ⟨hk.1.2.2.1, hk.1.2.2.2⟩⟩⟩⟩ | grind)), (by (with_reducible repeat (first | apply Kd.V_alloc | apply Kd.V_drewN | apply Kd.V_drew)); exact Kd.V_mono HO_360001.out (fun _ hk => by first | exact ⟨hk.1.1, ⟨hk.2, ⟨hk.1.2.1, ⟨hk.1.2.2.1, hk.1.2.2.2⟩⟩⟩⟩ | grind)), (by (with_reducible repeat (first | apply Kd.V_alloc | apply Kd.V_drewN | apply Kd.V_drew)); exact Kd.V_mono HO_361000.out (fun _ hk => by first | exact ⟨hk.1.1, ⟨hk.2, ⟨hk.1.2.1, ⟨hk.1.2.2.1, hk.1.2.2.2⟩⟩⟩⟩ | grind)), (by (with_reducible repeat (first | apply Kd.V_alloc | apply Kd.V_drewN | apply Kd.V_drew)); exact Kd.V_mono HO_361001.out (fun _ hk => by first | exact ⟨hk.1.1, ⟨hk.2, ⟨hk.1.2.1, ⟨hk.1.2.2.1, hk.1.2.2.2⟩⟩⟩⟩ | grind)), (by (with_reducible repeat (first | refine blk_drewN ?_ _ | refine blk_drew ?_ | refine blk_alloc ?_ _)); exact BK359.out), (by (with_reducible repeat (first | refine blk_drewN ?_ _ | refine blk_drew ?_ | refine blk_alloc ?_ _)); exact BK360.out), (by repeat (first | (with_reducible first | exact HB.out | apply below_alloc | apply pw_below_drewN | apply below_drew1 | refine below_set ?_ GE359.out | refine below_set ?_ GE360.out) | exact HB.out)), fun _ => (by (with_reducible repeat (first | apply Kd.N_alloc | apply Kd.N_drewN | apply Kd.N_drew)); exact HO368.out), fun h0_ => absurd ((hoff 5 (by kernel_rfl)).symm.trans h0_) (by decide), z_HO374, fun h0_ => absurd ((hoff 11 (by kernel_rfl)).symm.trans h0_) (by decide), fun h0_ => absurd ((hoff 12 (by kernel_rfl)).symm.trans h0_) (by decide), fun h0_ => absurd ((hoff 13 (by kernel_rfl)).symm.trans h0_) (by decide)⟩
                refine steps_cons ?_ ?_
                · rintro b a w' ⟨v367, v370, v373, v376, m12_, m13_, ha, Q_HO_19, Q_HO_360000, Q_HO_360001, Q_HO_361000, Q_HO_361001, Q_BK359, Q_BK360, Q_HB, Q_HO368, Q_HO371, Q_HO374, Q_HO377, Q_X12_, Q_X13_⟩ hb_ hon hoff
                  refine ⟨_, rfl, fun K hK => ?_⟩
                  have e34 : a.tmps[34]? = some (v367) := by rw [ha]; exact putSel_on (e := (4, 34, v367)) 2 rfl rfl (hon 4 (by kernel_rfl)) rfl
                  replace ha := Aside0.mk ha
                  have HO_19 := Aside0.mk Q_HO_19
                  have HO_360000 := Aside0.mk Q_HO_360000
                  have HO_360001 := Aside0.mk Q_HO_360001
                  have HO_361000 := Aside0.mk Q_HO_361000
                  have HO_361001 := Aside0.mk Q_HO_361001
                  have BK359 := Aside0.mk Q_BK359
                  have BK360 := Aside0.mk Q_BK360
                  have HB := Aside0.mk Q_HB
                  have HO368 := Aside0.mk (Q_HO368 (hon 4 (by kernel_rfl)))
                  obtain ⟨Ao45, co45, eo45⟩ := Kd.N_slice HO368.out
                  (first | subst eo45 | (injection eo45 with f1_ f2_ f3_; have f4_ := f1_.symm; have f5_ := f3_.symm; clear f1_ f2_ f3_; subst f4_; subst f5_))
                  refine goes_ Tryd.func52 (by kernel_rfl) rfl #[.slice Ao45 y366.length co45] (by rfl) rfl rfl (by first | (simp only [List.map_toArray, List.map_cons, List.map_nil, Act.eval, Array.getD_eq_getD_getElem?, Option.getD_some, e34]; done) | (simp only [List.map_toArray, List.map_cons, List.map_nil, Act.eval, Array.getD_eq_getD_getElem?, Option.getD_some, e34]; rfl)) ?_
                  with_reducible refine (subst_Canon.calls _ _ y366 t369 _ ?side1 ?side2 A19.out).mono ?_
                  (case side1 => repeat (first | exact (Kd.N_reads' HO368.out).2.2 | (with_reducible refine Kd.C_alloc ?_ _) | (with_reducible refine Kd.C_drewN ?_ _) | (with_reducible refine Kd.C_drew ?_)))
                  (case side2 => exact (Kd.N_reads' HO368.out).2.1)
                  rintro e w46 ⟨v370, rfl, ho0, hb⟩
                  refine ⟨_, rfl, ?_⟩
                  have n0_ := Aside0.mk (Kd.N_elder' (by (with_reducible repeat (first | apply Kd.N_alloc | apply Kd.N_drewN | apply Kd.N_drew)); exact HO_19.out) ((by first | exact Kd.N_base ho0 | exact Kd.S_base ho0)) hb)
                  have n1_ := Aside0.mk (Kd.V_elder' (by (with_reducible repeat (first | apply Kd.V_alloc | apply Kd.V_drewN | apply Kd.V_drew)); exact HO_360000.out) ((by first | exact Kd.N_base ho0 | exact Kd.S_base ho0)) hb)
                  have n2_ := Aside0.mk (Kd.V_elder' (by (with_reducible repeat (first | apply Kd.V_alloc | apply Kd.V_drewN | apply Kd.V_drew)); exact HO_360001.out) ((by first | exact Kd.N_base ho0 | exact Kd.S_base ho0)) hb)
                  have n3_ := Aside0.mk (Kd.V_elder' (by (with_reducible repeat (first | apply Kd.V_alloc | apply Kd.V_drewN | apply Kd.V_drew)); exact HO_361000.out) ((by first | exact Kd.N_base ho0 | exact Kd.S_base ho0)) hb)
                  have n4_ := Aside0.mk (Kd.V_elder' (by (with_reducible repeat (first | apply Kd.V_alloc | apply Kd.V_drewN | apply Kd.V_drew)); exact HO_361001.out) ((by first | exact Kd.N_base ho0 | exact Kd.S_base ho0)) hb)
                  have n5_ := Aside0.mk (Kd.N_elder' (by (with_reducible repeat (first | apply Kd.N_alloc | apply Kd.N_drewN | apply Kd.N_drew)); exact HO368.out) ((by first | exact Kd.N_base ho0 | exact Kd.S_base ho0)) hb)
                  have n6_ := Aside0.mk (Kd.N_lower (Kd.N_mono (ok' := fun k_ => ((P1_0_ k_ ∨ P1_1_ k_ ∨ P2_0_ k_ ∨ P2_1_ k_) ∨ w.heap.size ≤ k_) ∧ some k_ ≠ (.slice Ao11 y361.length co11 : Value).ownBlock ∧ some k_ ≠ (.slice Ao45 y366.length co45 : Value).ownBlock ∧ k_ ≠ gb359 ∧ k_ ≠ gb360) (Kd.S_N (Kd.S_bound ho0)) (fun k_ hk_ => ⟨(.inr (Nat.le_trans (below_size (by repeat (first | (with_reducible first | exact HB.out | apply below_alloc | apply pw_below_drewN | apply below_drew1 | refine below_set ?_ GE359.out | refine below_set ?_ GE360.out) | exact HB.out))) hk_.2.1)), (Kd.fresh' (Kd.N_lt (by (with_reducible repeat (first | apply Kd.N_alloc | apply Kd.N_drewN | apply Kd.N_drew)); exact HO_19.out)) k_ hk_.2.1), (Kd.fresh' (Kd.N_lt (by (with_reducible repeat (first | apply Kd.N_alloc | apply Kd.N_drewN | apply Kd.N_drew)); exact HO368.out)) k_ hk_.2.1), (Kd.freshB (g := gb359) (o := .cells #[.slice A1_0 l1_0.length c1_0, .slice A1_1 l1_1.length c1_1] 46 (0, 0)) (by (with_reducible repeat (first | refine blk_drewN ?_ _ | refine blk_drew ?_ | refine blk_alloc ?_ _)); exact BK359.out) k_ hk_.2.1), (Kd.freshB (g := gb360) (o := .cells #[.slice A2_0 l2_0.length c2_0, .slice A2_1 l2_1.length c2_1] 46 (0, 0)) (by (with_reducible repeat (first | refine blk_drewN ?_ _ | refine blk_drew ?_ | refine blk_alloc ?_ _)); exact BK360.out) k_ hk_.2.1)⟩)) (below_size (by repeat (first | (with_reducible first | exact HB.out | apply below_alloc | apply pw_below_drewN | apply below_drew1 | refine below_set ?_ GE359.out | refine below_set ?_ GE360.out) | exact HB.out))))
                  have n7_ := Aside0.mk (blk_below (g := gb359) (o := .cells #[.slice A1_0 l1_0.length c1_0, .slice A1_1 l1_1.length c1_1] 46 (0, 0)) (by (with_reducible repeat (first | refine blk_drewN ?_ _ | refine blk_drew ?_ | refine blk_alloc ?_ _)); exact BK359.out) hb)
                  have n8_ := Aside0.mk (blk_below (g := gb360) (o := .cells #[.slice A2_0 l2_0.length c2_0, .slice A2_1 l2_1.length c2_1] 46 (0, 0)) (by (with_reducible repeat (first | refine blk_drewN ?_ _ | refine blk_drew ?_ | refine blk_alloc ?_ _)); exact BK360.out) hb)
                  have n9_ := Aside0.mk (below_step (by repeat (first | (with_reducible first | exact HB.out | apply below_alloc | apply pw_below_drewN | apply below_drew1 | refine below_set ?_ GE359.out | refine below_set ?_ GE360.out) | exact HB.out)) hb)
                  have z_HO374 := fun (h0_ : b 10 = true) => (show Kd.N (Kd.slice 3 (Kd.int .i64)) 23 w46 w.heap.size (fun k_ => ((P1_0_ k_ ∨ P1_1_ k_ ∨ P2_0_ k_ ∨ P2_1_ k_) ∨ w.heap.size ≤ k_) ∧ some k_ ≠ (.slice Ao11 y361.length co11 : Value).ownBlock ∧ k_ ≠ gb359 ∧ k_ ≠ gb360) v373 y372 from by first | exact (Kd.N_elder' (by (with_reducible repeat (first | apply Kd.N_alloc | apply Kd.N_drewN | apply Kd.N_drew)); exact (Q_HO374 h0_)) ((by first | exact Kd.N_base ho0 | exact Kd.S_base ho0)) hb) | exact Kd.N_mono (Kd.N_elder' (by (with_reducible repeat (first | apply Kd.N_alloc | apply Kd.N_drewN | apply Kd.N_drew)); exact (Q_HO374 h0_)) ((by first | exact Kd.N_base ho0 | exact Kd.S_base ho0)) hb) (fun _ h_ => by first | trivial | exact h_ | exact h_.1))
                  clear HO_19
                  clear HO_360000
                  clear HO_360001
                  clear HO_361000
                  clear HO_361001
                  clear HO368
                  clear BK359
                  clear BK360
                  clear HB
                  have HO_19 := n0_
                  have HO_360000 := n1_
                  have HO_360001 := n2_
                  have HO_361000 := n3_
                  have HO_361001 := n4_
                  have HO368 := n5_
                  have HO371 := n6_
                  have BK359 := n7_
                  have BK360 := n8_
                  have HB := n9_
                  clear n0_ n1_ n2_ n3_ n4_ n5_ n6_ n7_ n8_ n9_
                  (try clear hb)
                  (try clear hb2)
                  (try clear hk)
                  (try clear hi)
                  (try clear ho0)
                  refine hK.out _ _ ⟨.slice Ao45 y366.length co45, v370, v373, v376, m12_, m13_, (by rw [ha.out]; exact putSel_upk 3 hb_ rfl rfl rfl), (by (with_reducible repeat (first | apply Kd.N_alloc | apply Kd.N_drewN | apply Kd.N_drew)); exact Kd.N_mono HO_19.out (fun _ hk => by first | exact ⟨hk.1.1, ⟨hk.1.2.1, ⟨hk.2, ⟨hk.1.2.2.1, hk.1.2.2.2⟩⟩⟩⟩ | grind)), (by (with_reducible repeat (first | apply Kd.V_alloc | apply Kd.V_drewN | apply Kd.V_drew)); exact Kd.V_mono HO_360000.out (fun _ hk => by first | exact ⟨hk.1.1, ⟨hk.1.2.1, ⟨hk.2, ⟨hk.1.2.2.1, ⟨hk.1.2.2.2.1, hk.1.2.2.2.2⟩⟩⟩⟩⟩ | grind)), (by (with_reducible repeat (first | apply Kd.V_alloc | apply Kd.V_drewN | apply Kd.V_drew)); exact Kd.V_mono HO_360001.out (fun _ hk => by first | exact ⟨hk.1.1, ⟨hk.1.2.1, ⟨hk.2, ⟨hk.1.2.2.1, ⟨hk.1.2.2.2.1, hk.1.2.2.2.2⟩⟩⟩⟩⟩ | grind)), (by (with_reducible repeat (first | apply Kd.V_alloc | apply Kd.V_drewN | apply Kd.V_drew)); exact Kd.V_mono HO_361000.out (fun _ hk => by first | exact ⟨hk.1.1, ⟨hk.1.2.1, ⟨hk.2, ⟨hk.1.2.2.1, ⟨hk.1.2.2.2.1, hk.1.2.2.2.2⟩⟩⟩⟩⟩ | grind)), (by (with_reducible repeat (first | apply Kd.V_alloc | apply Kd.V_drewN | apply Kd.V_drew)); exact Kd.V_mono HO_361001.out (fun _ hk => by first | exact ⟨hk.1.1, ⟨hk.1.2.1, ⟨hk.2, ⟨hk.1.2.2.1, ⟨hk.1.2.2.2.1, hk.1.2.2.2.2⟩⟩⟩⟩⟩ | grind)), (by (with_reducible repeat (first | refine blk_drewN ?_ _ | refine blk_drew ?_ | refine blk_alloc ?_ _)); exact BK359.out), (by (with_reducible repeat (first | refine blk_drewN ?_ _ | refine blk_drew ?_ | refine blk_alloc ?_ _)); exact BK360.out), (by repeat (first | (with_reducible first | exact HB.out | apply below_alloc | apply pw_below_drewN | apply below_drew1 | refine below_set ?_ GE359.out | refine below_set ?_ GE360.out) | exact HB.out)), fun _ => (by (with_reducible repeat (first | apply Kd.N_alloc | apply Kd.N_drewN | apply Kd.N_drew)); exact Kd.N_mono HO368.out (fun _ hk => by first | exact ⟨hk.1.1, ⟨hk.2, ⟨hk.1.2.1, ⟨hk.1.2.2.1, hk.1.2.2.2⟩⟩⟩⟩ | grind)), fun _ => (by (with_reducible repeat (first | apply Kd.N_alloc | apply Kd.N_drewN | apply Kd.N_drew)); exact Kd.N_mono HO371.out (fun _ hk => by first | exact ⟨hk.1, ⟨hk.2.2.1, ⟨hk.2.1, ⟨hk.2.2.2.1, hk.2.2.2.2⟩⟩⟩⟩ | grind)), z_HO374, fun h0_ => absurd ((hoff 11 (by kernel_rfl)).symm.trans h0_) (by decide), fun h0_ => absurd ((hoff 12 (by kernel_rfl)).symm.trans h0_) (by decide), fun h0_ => absurd ((hoff 13 (by kernel_rfl)).symm.trans h0_) (by decide)⟩
                refine steps_cons ?_ ?_
                · rintro b a w' ⟨v367, v370, v373, v376, m12_, m13_, ha, Q_HO_19, Q_HO_360000, Q_HO_360001, Q_HO_361000, Q_HO_361001, Q_BK359, Q_BK360, Q_HB, Q_HO368, Q_HO371, Q_HO374, Q_HO377, Q_X12_, Q_X13_⟩ hb_ hon hoff
                  refine ⟨_, rfl, fun K hK => ?_⟩
                  have e36 : a.tmps[36]? = some (.pointer (some ⟨gb360, 0, none⟩)) := by rw [ha]; exact (putSel_off rfl).trans rfl
                  replace ha := Aside0.mk ha
                  have HO_19 := Aside0.mk Q_HO_19
                  have HO_360000 := Aside0.mk Q_HO_360000
                  have HO_360001 := Aside0.mk Q_HO_360001
                  have HO_361000 := Aside0.mk Q_HO_361000
                  have HO_361001 := Aside0.mk Q_HO_361001
                  have BK359 := Aside0.mk Q_BK359
                  have BK360 := Aside0.mk Q_BK360
                  have HB := Aside0.mk Q_HB
                  have hc0_ : w'.cell? ⟨gb360, 0, none⟩ = some (.slice A2_0 l2_0.length c2_0) := (blk_cell BK360.out 0).trans rfl
                  have hc1_ : w'.cell? ⟨gb360, 1, none⟩ = some (.slice A2_1 l2_1.length c2_1) := (blk_cell BK360.out 1).trans rfl
                  refine value_ (w1 := w') (v := .slice A2_0 l2_0.length c2_0) (by rfl) rfl ?_ ?_
                  · go_simp
                    (try simp only [i64_w])
                    try rfl
                  refine hK.out _ _ ⟨v367, v370, v373, v376, m12_, m13_, (by rw [ha.out]; exact putSel_upk 4 hb_ rfl rfl rfl), Q_HO_19, Q_HO_360000, Q_HO_360001, Q_HO_361000, Q_HO_361001, Q_BK359, Q_BK360, Q_HB, Q_HO368, Q_HO371, fun h0_ => absurd ((hoff 10 (by kernel_rfl)).symm.trans h0_) (by decide), fun h0_ => absurd ((hoff 11 (by kernel_rfl)).symm.trans h0_) (by decide), fun h0_ => absurd ((hoff 12 (by kernel_rfl)).symm.trans h0_) (by decide), fun h0_ => absurd ((hoff 13 (by kernel_rfl)).symm.trans h0_) (by decide)⟩
                refine steps_cons ?_ ?_
                · rintro b a w' ⟨v367, v370, v373, v376, m12_, m13_, ha, Q_HO_19, Q_HO_360000, Q_HO_360001, Q_HO_361000, Q_HO_361001, Q_BK359, Q_BK360, Q_HB, Q_HO368, Q_HO371, Q_HO374, Q_HO377, Q_X12_, Q_X13_⟩ hb_ hon hoff
                  refine ⟨_, rfl, fun K hK => ?_⟩
                  have e38 : a.tmps[38]? = some (.pointer (some ⟨gb360, 1, none⟩)) := by rw [ha]; exact (putSel_off rfl).trans rfl
                  replace ha := Aside0.mk ha
                  have HO_19 := Aside0.mk Q_HO_19
                  have HO_360000 := Aside0.mk Q_HO_360000
                  have HO_360001 := Aside0.mk Q_HO_360001
                  have HO_361000 := Aside0.mk Q_HO_361000
                  have HO_361001 := Aside0.mk Q_HO_361001
                  have BK359 := Aside0.mk Q_BK359
                  have BK360 := Aside0.mk Q_BK360
                  have HB := Aside0.mk Q_HB
                  have hc0_ : w'.cell? ⟨gb360, 0, none⟩ = some (.slice A2_0 l2_0.length c2_0) := (blk_cell BK360.out 0).trans rfl
                  have hc1_ : w'.cell? ⟨gb360, 1, none⟩ = some (.slice A2_1 l2_1.length c2_1) := (blk_cell BK360.out 1).trans rfl
                  refine value_ (w1 := w') (v := .slice A2_1 l2_1.length c2_1) (by rfl) rfl ?_ ?_
                  · go_simp
                    (try simp only [i64_w])
                    try rfl
                  refine hK.out _ _ ⟨v367, v370, v373, v376, m12_, m13_, (by rw [ha.out]; exact putSel_upk 5 hb_ rfl rfl rfl), Q_HO_19, Q_HO_360000, Q_HO_360001, Q_HO_361000, Q_HO_361001, Q_BK359, Q_BK360, Q_HB, Q_HO368, Q_HO371, fun h0_ => absurd ((hoff 10 (by kernel_rfl)).symm.trans h0_) (by decide), fun h0_ => absurd ((hoff 11 (by kernel_rfl)).symm.trans h0_) (by decide), fun h0_ => absurd ((hoff 12 (by kernel_rfl)).symm.trans h0_) (by decide), fun h0_ => absurd ((hoff 13 (by kernel_rfl)).symm.trans h0_) (by decide)⟩
                refine steps_cons ?_ ?_
                · rintro b a w' ⟨v367, v370, v373, v376, m12_, m13_, ha, Q_HO_19, Q_HO_360000, Q_HO_360001, Q_HO_361000, Q_HO_361001, Q_BK359, Q_BK360, Q_HB, Q_HO368, Q_HO371, Q_HO374, Q_HO377, Q_X12_, Q_X13_⟩ hb_ hon hoff
                  refine ⟨_, rfl, fun K hK => ?_⟩
                  have e37 : a.tmps[37]? = some (.slice A2_0 l2_0.length c2_0) := by rw [ha]; exact putSel_on (e := (7, 37, .slice A2_0 l2_0.length c2_0)) 4 rfl rfl (hon 7 (by kernel_rfl)) rfl
                  have e39 : a.tmps[39]? = some (.slice A2_1 l2_1.length c2_1) := by rw [ha]; exact putSel_on (e := (9, 39, .slice A2_1 l2_1.length c2_1)) 5 rfl rfl (hon 9 (by kernel_rfl)) rfl
                  replace ha := Aside0.mk ha
                  have HO_19 := Aside0.mk Q_HO_19
                  have HO_360000 := Aside0.mk Q_HO_360000
                  have HO_360001 := Aside0.mk Q_HO_360001
                  have HO_361000 := Aside0.mk Q_HO_361000
                  have HO_361001 := Aside0.mk Q_HO_361001
                  have BK359 := Aside0.mk Q_BK359
                  have BK360 := Aside0.mk Q_BK360
                  have HB := Aside0.mk Q_HB
                  refine Kd.N_lit_step (Kd.slice 3 (Kd.int .i64)) _ 23 ?hg (N' := 40) ?hd (xs := ([l2_0, l2_1] : List (List Int))) (inner := [.slice A2_0 l2_0.length c2_0, .slice A2_1 l2_1.length c2_1]) (ok := (fun k_ => ((P1_0_ k_ ∨ P1_1_ k_ ∨ P2_0_ k_ ∨ P2_1_ k_) ∨ w.heap.size ≤ k_) ∧ some k_ ≠ (.slice Ao11 y361.length co11 : Value).ownBlock ∧ k_ ≠ gb359 ∧ k_ ≠ gb360)) (okp := (fun k_ => ((P1_0_ k_ ∨ P1_1_ k_ ∨ P2_0_ k_ ∨ P2_1_ k_) ∨ w.heap.size ≤ k_) ∧ some k_ ≠ (.slice Ao11 y361.length co11 : Value).ownBlock ∧ k_ ≠ gb359 ∧ k_ ≠ gb360)) ?hr ?hp (fun _ hk => hk) ((show ∀ k_, w'.heap.size ≤ k_ → (fun k_ => ((P1_0_ k_ ∨ P1_1_ k_ ∨ P2_0_ k_ ∨ P2_1_ k_) ∨ w.heap.size ≤ k_) ∧ some k_ ≠ (.slice Ao11 y361.length co11 : Value).ownBlock ∧ k_ ≠ gb359 ∧ k_ ≠ gb360) k_ from fun k_ hk => ⟨(.inr (Nat.le_trans (below_size (by repeat (first | (with_reducible first | exact HB.out | apply below_alloc | apply pw_below_drewN | apply below_drew1 | refine below_set ?_ GE359.out | refine below_set ?_ GE360.out) | exact HB.out))) hk)), Kd.fresh' (Kd.N_lt (by (with_reducible repeat (first | apply Kd.N_alloc | apply Kd.N_drewN | apply Kd.N_drew)); exact HO_19.out)) k_ hk, Kd.freshB (g := gb359) (o := .cells #[.slice A1_0 l1_0.length c1_0, .slice A1_1 l1_1.length c1_1] 46 (0, 0)) (by (with_reducible repeat (first | refine blk_drewN ?_ _ | refine blk_drew ?_ | refine blk_alloc ?_ _)); exact BK359.out) k_ hk, Kd.freshB (g := gb360) (o := .cells #[.slice A2_0 l2_0.length c2_0, .slice A2_1 l2_1.length c2_1] 46 (0, 0)) (by (with_reducible repeat (first | refine blk_drewN ?_ _ | refine blk_drew ?_ | refine blk_alloc ?_ _)); exact BK360.out) k_ hk⟩) _ (Nat.le_refl _)) (Below.refl _ _) (Nat.le_refl _) (by simp) ?_; (case hd => rfl); (case hg => rfl); (case hr => first | (go_simp; done) | (go_simp; rfl)); (case hp => exact (Reps.one (show Kd.FK (Kd.slice 3 (Kd.int .i64)) _ _ l2_0 [.slice A2_0 l2_0.length c2_0] from (Kd.FK_slice_mk (Kd.V_reads' (Kd.V_mono (ok' := (fun k_ => ((P1_0_ k_ ∨ P1_1_ k_ ∨ P2_0_ k_ ∨ P2_1_ k_) ∨ w.heap.size ≤ k_) ∧ some k_ ≠ (.slice Ao11 y361.length co11 : Value).ownBlock ∧ k_ ≠ gb359 ∧ k_ ≠ gb360)) (HO_361000.out) (fun k_ hk => ⟨hk.1, ⟨hk.2.1, ⟨hk.2.2.1, hk.2.2.2⟩⟩⟩))).2.1 (Kd.V_F (Kd.V_mono (ok' := (fun k_ => ((P1_0_ k_ ∨ P1_1_ k_ ∨ P2_0_ k_ ∨ P2_1_ k_) ∨ w.heap.size ≤ k_) ∧ some k_ ≠ (.slice Ao11 y361.length co11 : Value).ownBlock ∧ k_ ≠ gb359 ∧ k_ ≠ gb360)) (HO_361000.out) (fun k_ hk => ⟨hk.1, ⟨hk.2.1, ⟨hk.2.2.1, hk.2.2.2⟩⟩⟩))))) (Reps.one (show Kd.FK (Kd.slice 3 (Kd.int .i64)) _ _ l2_1 [.slice A2_1 l2_1.length c2_1] from (Kd.FK_slice_mk (Kd.V_reads' (Kd.V_mono (ok' := (fun k_ => ((P1_0_ k_ ∨ P1_1_ k_ ∨ P2_0_ k_ ∨ P2_1_ k_) ∨ w.heap.size ≤ k_) ∧ some k_ ≠ (.slice Ao11 y361.length co11 : Value).ownBlock ∧ k_ ≠ gb359 ∧ k_ ≠ gb360)) (HO_361001.out) (fun k_ hk => ⟨hk.1, ⟨hk.2.1, ⟨hk.2.2.1, hk.2.2.2⟩⟩⟩))).2.1 (Kd.V_F (Kd.V_mono (ok' := (fun k_ => ((P1_0_ k_ ∨ P1_1_ k_ ∨ P2_0_ k_ ∨ P2_1_ k_) ∨ w.heap.size ≤ k_) ∧ some k_ ≠ (.slice Ao11 y361.length co11 : Value).ownBlock ∧ k_ ≠ gb359 ∧ k_ ≠ gb360)) (HO_361001.out) (fun k_ hk => ⟨hk.1, ⟨hk.2.1, ⟨hk.2.2.1, hk.2.2.2⟩⟩⟩))))) (Reps.none _ _))))
                  intro v373 w42 ho43 hb hg_ hnew_
                  clear hg_ hnew_
                  (first | rw [← Ny372.out] at ho43 | (simp only [Int.reduceToNat] at ho43; rw [← Ny372.out] at ho43))
                  have n0_ := Aside0.mk (Kd.N_elder' (by (with_reducible repeat (first | apply Kd.N_alloc | apply Kd.N_drewN | apply Kd.N_drew)); exact HO_19.out) ((by first | exact Kd.N_base ho43 | exact Kd.S_base ho43)) hb)
                  have n1_ := Aside0.mk (Kd.V_elder' (by (with_reducible repeat (first | apply Kd.V_alloc | apply Kd.V_drewN | apply Kd.V_drew)); exact HO_360000.out) ((by first | exact Kd.N_base ho43 | exact Kd.S_base ho43)) hb)
                  have n2_ := Aside0.mk (Kd.V_elder' (by (with_reducible repeat (first | apply Kd.V_alloc | apply Kd.V_drewN | apply Kd.V_drew)); exact HO_360001.out) ((by first | exact Kd.N_base ho43 | exact Kd.S_base ho43)) hb)
                  have n3_ := Aside0.mk (Kd.V_elder' (by (with_reducible repeat (first | apply Kd.V_alloc | apply Kd.V_drewN | apply Kd.V_drew)); exact HO_361000.out) ((by first | exact Kd.N_base ho43 | exact Kd.S_base ho43)) hb)
                  have n4_ := Aside0.mk (Kd.V_elder' (by (with_reducible repeat (first | apply Kd.V_alloc | apply Kd.V_drewN | apply Kd.V_drew)); exact HO_361001.out) ((by first | exact Kd.N_base ho43 | exact Kd.S_base ho43)) hb)
                  have n5_ := Aside0.mk (Kd.N_lower ho43 (below_size (by repeat (first | (with_reducible first | exact HB.out | apply below_alloc | apply pw_below_drewN | apply below_drew1 | refine below_set ?_ GE359.out | refine below_set ?_ GE360.out) | exact HB.out))))
                  have n6_ := Aside0.mk (blk_below (g := gb359) (o := .cells #[.slice A1_0 l1_0.length c1_0, .slice A1_1 l1_1.length c1_1] 46 (0, 0)) (by (with_reducible repeat (first | refine blk_drewN ?_ _ | refine blk_drew ?_ | refine blk_alloc ?_ _)); exact BK359.out) hb)
                  have n7_ := Aside0.mk (blk_below (g := gb360) (o := .cells #[.slice A2_0 l2_0.length c2_0, .slice A2_1 l2_1.length c2_1] 46 (0, 0)) (by (with_reducible repeat (first | refine blk_drewN ?_ _ | refine blk_drew ?_ | refine blk_alloc ?_ _)); exact BK360.out) hb)
                  have n8_ := Aside0.mk (below_step (by repeat (first | (with_reducible first | exact HB.out | apply below_alloc | apply pw_below_drewN | apply below_drew1 | refine below_set ?_ GE359.out | refine below_set ?_ GE360.out) | exact HB.out)) hb)
                  have z_HO368 := fun (h0_ : b 4 = true) => (show Kd.N (Kd.slice 3 (Kd.int .i64)) 23 w42 w.heap.size (fun k_ => ((P1_0_ k_ ∨ P1_1_ k_ ∨ P2_0_ k_ ∨ P2_1_ k_) ∨ w.heap.size ≤ k_) ∧ some k_ ≠ (.slice Ao11 y361.length co11 : Value).ownBlock ∧ k_ ≠ gb359 ∧ k_ ≠ gb360) v367 y366 from by first | exact (Kd.N_elder' (by (with_reducible repeat (first | apply Kd.N_alloc | apply Kd.N_drewN | apply Kd.N_drew)); exact (Q_HO368 h0_)) ((by first | exact Kd.N_base ho43 | exact Kd.S_base ho43)) hb) | exact Kd.N_mono (Kd.N_elder' (by (with_reducible repeat (first | apply Kd.N_alloc | apply Kd.N_drewN | apply Kd.N_drew)); exact (Q_HO368 h0_)) ((by first | exact Kd.N_base ho43 | exact Kd.S_base ho43)) hb) (fun _ h_ => by first | trivial | exact h_ | exact h_.1))
                  have z_HO371 := fun (h0_ : b 5 = true) => (show Kd.N (Kd.slice 3 (Kd.int .i64)) 23 w42 w.heap.size (fun k_ => ((P1_0_ k_ ∨ P1_1_ k_ ∨ P2_0_ k_ ∨ P2_1_ k_) ∨ w.heap.size ≤ k_) ∧ some k_ ≠ (.slice Ao11 y361.length co11 : Value).ownBlock ∧ k_ ≠ gb359 ∧ k_ ≠ gb360) v370 t369 from by first | exact (Kd.N_elder' (by (with_reducible repeat (first | apply Kd.N_alloc | apply Kd.N_drewN | apply Kd.N_drew)); exact (Q_HO371 h0_)) ((by first | exact Kd.N_base ho43 | exact Kd.S_base ho43)) hb) | exact Kd.N_mono (Kd.N_elder' (by (with_reducible repeat (first | apply Kd.N_alloc | apply Kd.N_drewN | apply Kd.N_drew)); exact (Q_HO371 h0_)) ((by first | exact Kd.N_base ho43 | exact Kd.S_base ho43)) hb) (fun _ h_ => by first | trivial | exact h_ | exact h_.1))
                  clear HO_19
                  clear HO_360000
                  clear HO_360001
                  clear HO_361000
                  clear HO_361001
                  clear BK359
                  clear BK360
                  clear HB
                  have HO_19 := n0_
                  have HO_360000 := n1_
                  have HO_360001 := n2_
                  have HO_361000 := n3_
                  have HO_361001 := n4_
                  have HO374 := n5_
                  have BK359 := n6_
                  have BK360 := n7_
                  have HB := n8_
                  clear n0_ n1_ n2_ n3_ n4_ n5_ n6_ n7_ n8_
                  clear hb ho43
                  refine hK.out _ _ ⟨v367, v370, v373, v376, m12_, m13_, (by rw [ha.out]; exact putSel_upk 6 hb_ rfl rfl rfl), (by (with_reducible repeat (first | apply Kd.N_alloc | apply Kd.N_drewN | apply Kd.N_drew)); exact Kd.N_mono HO_19.out (fun _ hk => by first | exact ⟨hk.1.1, ⟨hk.2, ⟨hk.1.2.1, hk.1.2.2⟩⟩⟩ | grind)), (by (with_reducible repeat (first | apply Kd.V_alloc | apply Kd.V_drewN | apply Kd.V_drew)); exact Kd.V_mono HO_360000.out (fun _ hk => by first | exact ⟨hk.1.1, ⟨hk.2, ⟨hk.1.2.1, ⟨hk.1.2.2.1, hk.1.2.2.2⟩⟩⟩⟩ | grind)), (by (with_reducible repeat (first | apply Kd.V_alloc | apply Kd.V_drewN | apply Kd.V_drew)); exact Kd.V_mono HO_360001.out (fun _ hk => by first | exact ⟨hk.1.1, ⟨hk.2, ⟨hk.1.2.1, ⟨hk.1.2.2.1, hk.1.2.2.2⟩⟩⟩⟩ | grind)), (by (with_reducible repeat (first | apply Kd.V_alloc | apply Kd.V_drewN | apply Kd.V_drew)); exact Kd.V_mono HO_361000.out (fun _ hk => by first | exact ⟨hk.1.1, ⟨hk.2, ⟨hk.1.2.1, ⟨hk.1.2.2.1, hk.1.2.2.2⟩⟩⟩⟩ | grind)), (by (with_reducible repeat (first | apply Kd.V_alloc | apply Kd.V_drewN | apply Kd.V_drew)); exact Kd.V_mono HO_361001.out (fun _ hk => by first | exact ⟨hk.1.1, ⟨hk.2, ⟨hk.1.2.1, ⟨hk.1.2.2.1, hk.1.2.2.2⟩⟩⟩⟩ | grind)), (by (with_reducible repeat (first | refine blk_drewN ?_ _ | refine blk_drew ?_ | refine blk_alloc ?_ _)); exact BK359.out), (by (with_reducible repeat (first | refine blk_drewN ?_ _ | refine blk_drew ?_ | refine blk_alloc ?_ _)); exact BK360.out), (by repeat (first | (with_reducible first | exact HB.out | apply below_alloc | apply pw_below_drewN | apply below_drew1 | refine below_set ?_ GE359.out | refine below_set ?_ GE360.out) | exact HB.out)), z_HO368, z_HO371, fun _ => (by (with_reducible repeat (first | apply Kd.N_alloc | apply Kd.N_drewN | apply Kd.N_drew)); exact HO374.out), fun h0_ => absurd ((hoff 11 (by kernel_rfl)).symm.trans h0_) (by decide), fun h0_ => absurd ((hoff 12 (by kernel_rfl)).symm.trans h0_) (by decide), fun h0_ => absurd ((hoff 13 (by kernel_rfl)).symm.trans h0_) (by decide)⟩
                refine steps_cons ?_ ?_
                · rintro b a w' ⟨v367, v370, v373, v376, m12_, m13_, ha, Q_HO_19, Q_HO_360000, Q_HO_360001, Q_HO_361000, Q_HO_361001, Q_BK359, Q_BK360, Q_HB, Q_HO368, Q_HO371, Q_HO374, Q_HO377, Q_X12_, Q_X13_⟩ hb_ hon hoff
                  refine ⟨_, rfl, fun K hK => ?_⟩
                  have e40 : a.tmps[40]? = some (v373) := by rw [ha]; exact putSel_on (e := (10, 40, v373)) 6 rfl rfl (hon 10 (by kernel_rfl)) rfl
                  replace ha := Aside0.mk ha
                  have HO_19 := Aside0.mk Q_HO_19
                  have HO_360000 := Aside0.mk Q_HO_360000
                  have HO_360001 := Aside0.mk Q_HO_360001
                  have HO_361000 := Aside0.mk Q_HO_361000
                  have HO_361001 := Aside0.mk Q_HO_361001
                  have BK359 := Aside0.mk Q_BK359
                  have BK360 := Aside0.mk Q_BK360
                  have HB := Aside0.mk Q_HB
                  have HO368 := Aside0.mk (Q_HO368 (hon 4 (by kernel_rfl)))
                  have HO371 := Aside0.mk (Q_HO371 (hon 5 (by kernel_rfl)))
                  have HO374 := Aside0.mk (Q_HO374 (hon 10 (by kernel_rfl)))
                  obtain ⟨Ao49, co49, eo49⟩ := Kd.N_slice HO374.out
                  (first | subst eo49 | (injection eo49 with f1_ f2_ f3_; have f4_ := f1_.symm; have f5_ := f3_.symm; clear f1_ f2_ f3_; subst f4_; subst f5_))
                  refine goes_ Tryd.func52 (by kernel_rfl) rfl #[.slice Ao49 y372.length co49] (by rfl) rfl rfl (by first | (simp only [List.map_toArray, List.map_cons, List.map_nil, Act.eval, Array.getD_eq_getD_getElem?, Option.getD_some, e40]; done) | (simp only [List.map_toArray, List.map_cons, List.map_nil, Act.eval, Array.getD_eq_getD_getElem?, Option.getD_some, e40]; rfl)) ?_
                  with_reducible refine (subst_Canon.calls _ _ y372 t375 _ ?side1 ?side2 A20.out).mono ?_
                  (case side1 => repeat (first | exact (Kd.N_reads' HO374.out).2.2 | (with_reducible refine Kd.C_alloc ?_ _) | (with_reducible refine Kd.C_drewN ?_ _) | (with_reducible refine Kd.C_drew ?_)))
                  (case side2 => exact (Kd.N_reads' HO374.out).2.1)
                  rintro e w50 ⟨v376, rfl, ho0, hb⟩
                  refine ⟨_, rfl, ?_⟩
                  have n0_ := Aside0.mk (Kd.N_elder' (by (with_reducible repeat (first | apply Kd.N_alloc | apply Kd.N_drewN | apply Kd.N_drew)); exact HO_19.out) ((by first | exact Kd.N_base ho0 | exact Kd.S_base ho0)) hb)
                  have n1_ := Aside0.mk (Kd.V_elder' (by (with_reducible repeat (first | apply Kd.V_alloc | apply Kd.V_drewN | apply Kd.V_drew)); exact HO_360000.out) ((by first | exact Kd.N_base ho0 | exact Kd.S_base ho0)) hb)
                  have n2_ := Aside0.mk (Kd.V_elder' (by (with_reducible repeat (first | apply Kd.V_alloc | apply Kd.V_drewN | apply Kd.V_drew)); exact HO_360001.out) ((by first | exact Kd.N_base ho0 | exact Kd.S_base ho0)) hb)
                  have n3_ := Aside0.mk (Kd.V_elder' (by (with_reducible repeat (first | apply Kd.V_alloc | apply Kd.V_drewN | apply Kd.V_drew)); exact HO_361000.out) ((by first | exact Kd.N_base ho0 | exact Kd.S_base ho0)) hb)
                  have n4_ := Aside0.mk (Kd.V_elder' (by (with_reducible repeat (first | apply Kd.V_alloc | apply Kd.V_drewN | apply Kd.V_drew)); exact HO_361001.out) ((by first | exact Kd.N_base ho0 | exact Kd.S_base ho0)) hb)
                  have n5_ := Aside0.mk (Kd.N_elder' (by (with_reducible repeat (first | apply Kd.N_alloc | apply Kd.N_drewN | apply Kd.N_drew)); exact HO368.out) ((by first | exact Kd.N_base ho0 | exact Kd.S_base ho0)) hb)
                  have n6_ := Aside0.mk (Kd.N_elder' (by (with_reducible repeat (first | apply Kd.N_alloc | apply Kd.N_drewN | apply Kd.N_drew)); exact HO371.out) ((by first | exact Kd.N_base ho0 | exact Kd.S_base ho0)) hb)
                  have n7_ := Aside0.mk (Kd.N_elder' (by (with_reducible repeat (first | apply Kd.N_alloc | apply Kd.N_drewN | apply Kd.N_drew)); exact HO374.out) ((by first | exact Kd.N_base ho0 | exact Kd.S_base ho0)) hb)
                  have n8_ := Aside0.mk (Kd.N_lower (Kd.N_mono (ok' := fun k_ => ((P1_0_ k_ ∨ P1_1_ k_ ∨ P2_0_ k_ ∨ P2_1_ k_) ∨ w.heap.size ≤ k_) ∧ some k_ ≠ (.slice Ao11 y361.length co11 : Value).ownBlock ∧ some k_ ≠ (v367 : Value).ownBlock ∧ some k_ ≠ (v370 : Value).ownBlock ∧ some k_ ≠ (.slice Ao49 y372.length co49 : Value).ownBlock ∧ k_ ≠ gb359 ∧ k_ ≠ gb360) (Kd.S_N (Kd.S_bound ho0)) (fun k_ hk_ => ⟨(.inr (Nat.le_trans (below_size (by repeat (first | (with_reducible first | exact HB.out | apply below_alloc | apply pw_below_drewN | apply below_drew1 | refine below_set ?_ GE359.out | refine below_set ?_ GE360.out) | exact HB.out))) hk_.2.1)), (Kd.fresh' (Kd.N_lt (by (with_reducible repeat (first | apply Kd.N_alloc | apply Kd.N_drewN | apply Kd.N_drew)); exact HO_19.out)) k_ hk_.2.1), (Kd.fresh' (Kd.N_lt (by (with_reducible repeat (first | apply Kd.N_alloc | apply Kd.N_drewN | apply Kd.N_drew)); exact HO368.out)) k_ hk_.2.1), (Kd.fresh' (Kd.N_lt (by (with_reducible repeat (first | apply Kd.N_alloc | apply Kd.N_drewN | apply Kd.N_drew)); exact HO371.out)) k_ hk_.2.1), (Kd.fresh' (Kd.N_lt (by (with_reducible repeat (first | apply Kd.N_alloc | apply Kd.N_drewN | apply Kd.N_drew)); exact HO374.out)) k_ hk_.2.1), (Kd.freshB (g := gb359) (o := .cells #[.slice A1_0 l1_0.length c1_0, .slice A1_1 l1_1.length c1_1] 46 (0, 0)) (by (with_reducible repeat (first | refine blk_drewN ?_ _ | refine blk_drew ?_ | refine blk_alloc ?_ _)); exact BK359.out) k_ hk_.2.1), (Kd.freshB (g := gb360) (o := .cells #[.slice A2_0 l2_0.length c2_0, .slice A2_1 l2_1.length c2_1] 46 (0, 0)) (by (with_reducible repeat (first | refine blk_drewN ?_ _ | refine blk_drew ?_ | refine blk_alloc ?_ _)); exact BK360.out) k_ hk_.2.1)⟩)) (below_size (by repeat (first | (with_reducible first | exact HB.out | apply below_alloc | apply pw_below_drewN | apply below_drew1 | refine below_set ?_ GE359.out | refine below_set ?_ GE360.out) | exact HB.out))))
                  have n9_ := Aside0.mk (blk_below (g := gb359) (o := .cells #[.slice A1_0 l1_0.length c1_0, .slice A1_1 l1_1.length c1_1] 46 (0, 0)) (by (with_reducible repeat (first | refine blk_drewN ?_ _ | refine blk_drew ?_ | refine blk_alloc ?_ _)); exact BK359.out) hb)
                  have n10_ := Aside0.mk (blk_below (g := gb360) (o := .cells #[.slice A2_0 l2_0.length c2_0, .slice A2_1 l2_1.length c2_1] 46 (0, 0)) (by (with_reducible repeat (first | refine blk_drewN ?_ _ | refine blk_drew ?_ | refine blk_alloc ?_ _)); exact BK360.out) hb)
                  have n11_ := Aside0.mk (below_step (by repeat (first | (with_reducible first | exact HB.out | apply below_alloc | apply pw_below_drewN | apply below_drew1 | refine below_set ?_ GE359.out | refine below_set ?_ GE360.out) | exact HB.out)) hb)
                  clear HO_19
                  clear HO_360000
                  clear HO_360001
                  clear HO_361000
                  clear HO_361001
                  clear HO368
                  clear HO371
                  clear HO374
                  clear BK359
                  clear BK360
                  clear HB
                  have HO_19 := n0_
                  have HO_360000 := n1_
                  have HO_360001 := n2_
                  have HO_361000 := n3_
                  have HO_361001 := n4_
                  have HO368 := n5_
                  have HO371 := n6_
                  have HO374 := n7_
                  have HO377 := n8_
                  have BK359 := n9_
                  have BK360 := n10_
                  have HB := n11_
                  clear n0_ n1_ n2_ n3_ n4_ n5_ n6_ n7_ n8_ n9_ n10_ n11_
                  (try clear hb)
                  (try clear hb2)
                  (try clear hk)
                  (try clear hi)
                  (try clear ho0)
                  refine hK.out _ _ ⟨v367, v370, .slice Ao49 y372.length co49, v376, m12_, m13_, (by rw [ha.out]; exact putSel_upk 7 hb_ rfl rfl rfl), (by (with_reducible repeat (first | apply Kd.N_alloc | apply Kd.N_drewN | apply Kd.N_drew)); exact Kd.N_mono HO_19.out (fun _ hk => by first | exact ⟨hk.1.1, ⟨hk.1.2.1, ⟨hk.1.2.2.1, ⟨hk.1.2.2.2.1, ⟨hk.2, ⟨hk.1.2.2.2.2.1, hk.1.2.2.2.2.2⟩⟩⟩⟩⟩⟩ | grind)), (by (with_reducible repeat (first | apply Kd.V_alloc | apply Kd.V_drewN | apply Kd.V_drew)); exact Kd.V_mono HO_360000.out (fun _ hk => by first | exact ⟨hk.1.1, ⟨hk.1.2.1, ⟨hk.1.2.2.1, ⟨hk.1.2.2.2.1, ⟨hk.2, ⟨hk.1.2.2.2.2.1, ⟨hk.1.2.2.2.2.2.1, hk.1.2.2.2.2.2.2⟩⟩⟩⟩⟩⟩⟩ | grind)), (by (with_reducible repeat (first | apply Kd.V_alloc | apply Kd.V_drewN | apply Kd.V_drew)); exact Kd.V_mono HO_360001.out (fun _ hk => by first | exact ⟨hk.1.1, ⟨hk.1.2.1, ⟨hk.1.2.2.1, ⟨hk.1.2.2.2.1, ⟨hk.2, ⟨hk.1.2.2.2.2.1, ⟨hk.1.2.2.2.2.2.1, hk.1.2.2.2.2.2.2⟩⟩⟩⟩⟩⟩⟩ | grind)), (by (with_reducible repeat (first | apply Kd.V_alloc | apply Kd.V_drewN | apply Kd.V_drew)); exact Kd.V_mono HO_361000.out (fun _ hk => by first | exact ⟨hk.1.1, ⟨hk.1.2.1, ⟨hk.1.2.2.1, ⟨hk.1.2.2.2.1, ⟨hk.2, ⟨hk.1.2.2.2.2.1, ⟨hk.1.2.2.2.2.2.1, hk.1.2.2.2.2.2.2⟩⟩⟩⟩⟩⟩⟩ | grind)), (by (with_reducible repeat (first | apply Kd.V_alloc | apply Kd.V_drewN | apply Kd.V_drew)); exact Kd.V_mono HO_361001.out (fun _ hk => by first | exact ⟨hk.1.1, ⟨hk.1.2.1, ⟨hk.1.2.2.1, ⟨hk.1.2.2.2.1, ⟨hk.2, ⟨hk.1.2.2.2.2.1, ⟨hk.1.2.2.2.2.2.1, hk.1.2.2.2.2.2.2⟩⟩⟩⟩⟩⟩⟩ | grind)), (by (with_reducible repeat (first | refine blk_drewN ?_ _ | refine blk_drew ?_ | refine blk_alloc ?_ _)); exact BK359.out), (by (with_reducible repeat (first | refine blk_drewN ?_ _ | refine blk_drew ?_ | refine blk_alloc ?_ _)); exact BK360.out), (by repeat (first | (with_reducible first | exact HB.out | apply below_alloc | apply pw_below_drewN | apply below_drew1 | refine below_set ?_ GE359.out | refine below_set ?_ GE360.out) | exact HB.out)), fun _ => (by (with_reducible repeat (first | apply Kd.N_alloc | apply Kd.N_drewN | apply Kd.N_drew)); exact Kd.N_mono HO368.out (fun _ hk => by first | exact ⟨hk.1.1, ⟨hk.1.2.1, ⟨hk.1.2.2.1, ⟨hk.2, ⟨hk.1.2.2.2.1, ⟨hk.1.2.2.2.2.1, hk.1.2.2.2.2.2⟩⟩⟩⟩⟩⟩ | grind)), fun _ => (by (with_reducible repeat (first | apply Kd.N_alloc | apply Kd.N_drewN | apply Kd.N_drew)); exact Kd.N_mono HO371.out (fun _ hk => by first | exact ⟨hk.1.1, ⟨hk.1.2.1, ⟨hk.1.2.2.1, ⟨hk.2, ⟨hk.1.2.2.2.1, ⟨hk.1.2.2.2.2.1, hk.1.2.2.2.2.2⟩⟩⟩⟩⟩⟩ | grind)), fun _ => (by (with_reducible repeat (first | apply Kd.N_alloc | apply Kd.N_drewN | apply Kd.N_drew)); exact Kd.N_mono HO374.out (fun _ hk => by first | exact ⟨hk.1.1, ⟨hk.1.2.1, ⟨hk.1.2.2.1, ⟨hk.2, ⟨hk.1.2.2.2.1, ⟨hk.1.2.2.2.2.1, hk.1.2.2.2.2.2⟩⟩⟩⟩⟩⟩ | grind)), fun _ => (by (with_reducible repeat (first | apply Kd.N_alloc | apply Kd.N_drewN | apply Kd.N_drew)); exact Kd.N_mono HO377.out (fun _ hk => by first | exact ⟨hk.1, ⟨hk.2.2.1, ⟨hk.2.2.2.1, ⟨hk.2.2.2.2.1, ⟨hk.2.1, ⟨hk.2.2.2.2.2.1, hk.2.2.2.2.2.2⟩⟩⟩⟩⟩⟩ | grind)), fun h0_ => absurd ((hoff 12 (by kernel_rfl)).symm.trans h0_) (by decide), fun h0_ => absurd ((hoff 13 (by kernel_rfl)).symm.trans h0_) (by decide)⟩
                refine steps_cons ?_ ?_
                · rintro b a w' ⟨v367, v370, v373, v376, m12_, m13_, ha, Q_HO_19, Q_HO_360000, Q_HO_360001, Q_HO_361000, Q_HO_361001, Q_BK359, Q_BK360, Q_HB, Q_HO368, Q_HO371, Q_HO374, Q_HO377, Q_X12_, Q_X13_⟩ hb_ hon hoff
                  refine ⟨_, rfl, fun K hK => ?_⟩
                  have e35 : a.tmps[35]? = some (v370) := by rw [ha]; exact putSel_on (e := (5, 35, v370)) 3 rfl rfl (hon 5 (by kernel_rfl)) rfl
                  replace ha := Aside0.mk ha
                  have HO_19 := Aside0.mk Q_HO_19
                  have HO_360000 := Aside0.mk Q_HO_360000
                  have HO_360001 := Aside0.mk Q_HO_360001
                  have HO_361000 := Aside0.mk Q_HO_361000
                  have HO_361001 := Aside0.mk Q_HO_361001
                  have BK359 := Aside0.mk Q_BK359
                  have BK360 := Aside0.mk Q_BK360
                  have HB := Aside0.mk Q_HB
                  have HO368 := Aside0.mk (Q_HO368 (hon 4 (by kernel_rfl)))
                  have HO371 := Aside0.mk (Q_HO371 (hon 5 (by kernel_rfl)))
                  have HO374 := Aside0.mk (Q_HO374 (hon 10 (by kernel_rfl)))
                  have HO377 := Aside0.mk (Q_HO377 (hon 11 (by kernel_rfl)))
                  refine value_ (w1 := w') (v := v370) (by rfl) rfl ?_ ?_
                  · go_simp
                    (try simp only [i64_w])
                    try rfl
                  refine hK.out _ _ ⟨v367, v370, v373, v376, (v370), m13_, (by rw [ha.out]; exact putSel_upk 8 hb_ rfl rfl rfl), Q_HO_19, Q_HO_360000, Q_HO_360001, Q_HO_361000, Q_HO_361001, Q_BK359, Q_BK360, Q_HB, Q_HO368, Q_HO371, Q_HO374, Q_HO377, fun _ => rfl, fun h0_ => absurd ((hoff 13 (by kernel_rfl)).symm.trans h0_) (by decide)⟩
                refine steps_cons ?_ ?_
                · rintro b a w' ⟨v367, v370, v373, v376, m12_, m13_, ha, Q_HO_19, Q_HO_360000, Q_HO_360001, Q_HO_361000, Q_HO_361001, Q_BK359, Q_BK360, Q_HB, Q_HO368, Q_HO371, Q_HO374, Q_HO377, Q_X12_, Q_X13_⟩ hb_ hon hoff
                  refine ⟨_, rfl, fun K hK => ?_⟩
                  have e41 : a.tmps[41]? = some (v376) := by rw [ha]; exact putSel_on (e := (11, 41, v376)) 7 rfl rfl (hon 11 (by kernel_rfl)) rfl
                  replace ha := Aside0.mk ha
                  have HO_19 := Aside0.mk Q_HO_19
                  have HO_360000 := Aside0.mk Q_HO_360000
                  have HO_360001 := Aside0.mk Q_HO_360001
                  have HO_361000 := Aside0.mk Q_HO_361000
                  have HO_361001 := Aside0.mk Q_HO_361001
                  have BK359 := Aside0.mk Q_BK359
                  have BK360 := Aside0.mk Q_BK360
                  have HB := Aside0.mk Q_HB
                  have HO368 := Aside0.mk (Q_HO368 (hon 4 (by kernel_rfl)))
                  have HO371 := Aside0.mk (Q_HO371 (hon 5 (by kernel_rfl)))
                  have HO374 := Aside0.mk (Q_HO374 (hon 10 (by kernel_rfl)))
                  have HO377 := Aside0.mk (Q_HO377 (hon 11 (by kernel_rfl)))
                  refine value_ (w1 := w') (v := v376) (by rfl) rfl ?_ ?_
                  · go_simp
                    (try simp only [i64_w])
                    try rfl
                  refine hK.out _ _ ⟨v367, v370, v373, v376, m12_, (v376), (by rw [ha.out]; exact putSel_upk 9 hb_ rfl rfl rfl), Q_HO_19, Q_HO_360000, Q_HO_360001, Q_HO_361000, Q_HO_361001, Q_BK359, Q_BK360, Q_HB, Q_HO368, Q_HO371, Q_HO374, Q_HO377, Q_X12_, fun _ => rfl⟩
                exact steps_nil
              rintro b a w50 hall ⟨v367, v370, v373, v376, m12_, m13_, ha, Q_HO_19, Q_HO_360000, Q_HO_360001, Q_HO_361000, Q_HO_361001, Q_BK359, Q_BK360, Q_HB, Q_HO368, Q_HO371, Q_HO374, Q_HO377, Q_X12_, Q_X13_⟩
              clear BK359 BK360 HB HO_19 HO_360000 HO_360001 HO_361000 HO_361001
              have hb1_ := hall 1 (by kernel_rfl)
              have hb3_ := hall 3 (by kernel_rfl)
              have hb4_ := hall 4 (by kernel_rfl)
              have hb5_ := hall 5 (by kernel_rfl)
              have hb7_ := hall 7 (by kernel_rfl)
              have hb9_ := hall 9 (by kernel_rfl)
              have hb10_ := hall 10 (by kernel_rfl)
              have hb11_ := hall 11 (by kernel_rfl)
              have hb12_ := hall 12 (by kernel_rfl)
              have hb13_ := hall 13 (by kernel_rfl)
              subst ha
              obtain rfl := Q_X12_ hb12_
              obtain rfl := Q_X13_ hb13_
              simp only [putSel, hb1_, hb3_, hb4_, hb5_, hb7_, hb9_, hb10_, hb11_, hb12_, hb13_, if_true, Act.put, List.setIfInBounds_toArray, List.set_cons_zero, List.set_cons_succ]
              have HO_19 := Aside0.mk Q_HO_19
              clear Q_HO_19
              have HO_360000 := Aside0.mk Q_HO_360000
              clear Q_HO_360000
              have HO_360001 := Aside0.mk Q_HO_360001
              clear Q_HO_360001
              have HO_361000 := Aside0.mk Q_HO_361000
              clear Q_HO_361000
              have HO_361001 := Aside0.mk Q_HO_361001
              clear Q_HO_361001
              have BK359 := Aside0.mk Q_BK359
              clear Q_BK359
              have BK360 := Aside0.mk Q_BK360
              clear Q_BK360
              have HB := Aside0.mk Q_HB
              clear Q_HB
              have HO368 := Aside0.mk (Q_HO368 hb4_)
              clear Q_HO368
              have HO371 := Aside0.mk (Q_HO371 hb5_)
              clear Q_HO371
              have HO374 := Aside0.mk (Q_HO374 hb10_)
              clear Q_HO374
              have HO377 := Aside0.mk (Q_HO377 hb11_)
              clear Q_HO377
              clear hall hb1_ hb3_ hb4_ hb5_ hb7_ hb9_ hb10_ hb11_ hb12_ hb13_
              try go_wp2
              have n0_ := Aside0.mk (Kd.N_drew HO_19.out)
              have n1_ := Aside0.mk (Kd.V_drew HO_360000.out)
              have n2_ := Aside0.mk (Kd.V_drew HO_360001.out)
              have n3_ := Aside0.mk (Kd.V_drew HO_361000.out)
              have n4_ := Aside0.mk (Kd.V_drew HO_361001.out)
              have n5_ := Aside0.mk (Kd.N_drew HO368.out)
              have n6_ := Aside0.mk (Kd.N_drew HO371.out)
              have n7_ := Aside0.mk (Kd.N_drew HO374.out)
              have n8_ := Aside0.mk (Kd.N_drew HO377.out)
              have n9_ := Aside0.mk (blk_drew BK359.out)
              have n10_ := Aside0.mk (blk_drew BK360.out)
              have n11_ := Aside0.mk (below_drew1 HB.out)
              clear HO_19
              clear HO_360000
              clear HO_360001
              clear HO_361000
              clear HO_361001
              clear HO368
              clear HO371
              clear HO374
              clear HO377
              clear BK359
              clear BK360
              clear HB
              have HO_19 := n0_
              have HO_360000 := n1_
              have HO_360001 := n2_
              have HO_361000 := n3_
              have HO_361001 := n4_
              have HO368 := n5_
              have HO371 := n6_
              have HO374 := n7_
              have HO377 := n8_
              have BK359 := n9_
              have BK360 := n10_
              have HB := n11_
              clear n0_ n1_ n2_ n3_ n4_ n5_ n6_ n7_ n8_ n9_ n10_ n11_
              obtain ⟨Ao52, co52, eo52⟩ := Kd.N_slice HO371.out
              (first | subst eo52 | (injection eo52 with f1_ f2_ f3_; have f4_ := f1_.symm; have f5_ := f3_.symm; clear f1_ f2_ f3_; subst f4_; subst f5_))
              have p378 : 0 ≤ (0 : Int) := (by omega)
              have q378 : 0 < (t369.length : Int) := of_decide_eq_true (by first | (with_reducible assumption) | assumption)
              obtain ⟨ad378, A378_0, c378_0, e378, hx378_0, hl378_0, hi378_0⟩ := at_L3 (Kd.N_reads' HO371.out).2.2 0 p378 q378
              cases e378
              obtain ⟨ce378, hce378, hMe378, hcc378⟩ := Kd.N_get HO371.out [] 0 p378 (by first | exact q378 | exact of_decide_eq_true (by first | (with_reducible assumption) | assumption) | (have e_ := (Kd.N_reads' HO371.out).1; omega))
              obtain ⟨ua378_0, uc378_0, rfl, ul378_0, ge378_0⟩ := Kd.FK_slice_open hMe378
              have hv378_0 := hcc378 0 _ rfl
              rw [Nat.add_zero, show ((Kd.slice 3 (Kd.int .i64))).sz = 1 from rfl, Nat.mul_one] at hv378_0
              replace hv378_0 := Option.some.inj (hv378_0.symm.trans hx378_0)
              injection hv378_0 with hva_ hvn_ hvc_
              rw [hva_] at ge378_0
              rw [hvc_] at ul378_0
              have HL378_0 := Aside0.mk (show Kd.V (Kd.int .i64) 3 _ w.heap.size _ _ (rd_L3 t369 0) from Kd.V_mk ul378_0 ge378_0)
              clear hva_ hvn_ hvc_ ge378_0 ul378_0
              clear hcc378 hce378
              have qi378 : (0 < t369.length) = True := eq_true (by omega)
              (try rw [show ((0 : Int)).toNat = 0 from rfl] at hx378_0)
              (try rw [Addr.add_zero'] at hx378_0)
              have HR378_0 := Aside0.mk hi378_0
              have HC378_0 := Aside0.mk hl378_0
              clear hi378_0 hl378_0
              replace p378 := eq_true p378
              replace q378 := eq_true q378
              obtain ⟨Ao53, co53, eo53⟩ := Kd.N_slice HO377.out
              (first | subst eo53 | (injection eo53 with f1_ f2_ f3_; have f4_ := f1_.symm; have f5_ := f3_.symm; clear f1_ f2_ f3_; subst f4_; subst f5_))
              have p379 : 0 ≤ (0 : Int) := (by omega)
              have q379 : 0 < (t375.length : Int) := of_decide_eq_true (by first | (with_reducible assumption) | assumption)
              obtain ⟨ad379, A379_0, c379_0, e379, hx379_0, hl379_0, hi379_0⟩ := at_L3 (Kd.N_reads' HO377.out).2.2 0 p379 q379
              cases e379
              obtain ⟨ce379, hce379, hMe379, hcc379⟩ := Kd.N_get HO377.out [] 0 p379 (by first | exact q379 | exact of_decide_eq_true (by first | (with_reducible assumption) | assumption) | (have e_ := (Kd.N_reads' HO377.out).1; omega))
              obtain ⟨ua379_0, uc379_0, rfl, ul379_0, ge379_0⟩ := Kd.FK_slice_open hMe379
              have hv379_0 := hcc379 0 _ rfl
              rw [Nat.add_zero, show ((Kd.slice 3 (Kd.int .i64))).sz = 1 from rfl, Nat.mul_one] at hv379_0
              replace hv379_0 := Option.some.inj (hv379_0.symm.trans hx379_0)
              injection hv379_0 with hva_ hvn_ hvc_
              rw [hva_] at ge379_0
              rw [hvc_] at ul379_0
              have HL379_0 := Aside0.mk (show Kd.V (Kd.int .i64) 3 _ w.heap.size _ _ (rd_L3 t375 0) from Kd.V_mk ul379_0 ge379_0)
              clear hva_ hvn_ hvc_ ge379_0 ul379_0
              clear hcc379 hce379
              have qi379 : (0 < t375.length) = True := eq_true (by omega)
              (try rw [show ((0 : Int)).toNat = 0 from rfl] at hx379_0)
              (try rw [Addr.add_zero'] at hx379_0)
              have HR379_0 := Aside0.mk hi379_0
              have HC379_0 := Aside0.mk hl379_0
              clear hi379_0 hl379_0
              replace p379 := eq_true p379
              replace q379 := eq_true q379
              refine start_ (n := 17) (S := fun w' => w'.cell? ad378 = some (.slice A378_0 (rd_L3 t369 0).length c378_0) ∧ w'.cell? ad379 = some (.slice A379_0 (rd_L3 t375 0).length c379_0)) (ds := []) #[false, false, false, false, false, false, false, false, false, false, false, false, false, false, false, false, false] (by kernel_rfl) rfl rfl ⟨hx378_0, hx379_0⟩ (fun hHeld => ?_); refine with_tabW match_Variant.tab8 match_Variant.bits8 (fun HT_ HW_ => ?_)
              generalize w50.drew = w51 at HO_19 HO_360000 HO_360001 HO_361000 HO_361001 HO368 HO371 HO374 HO377 BK359 BK360 HB HL378_0 HL379_0 HR378_0 HR379_0 hx378_0 hx379_0 hHeld ⊢
              refine pure_ (i := 0) (N := some 42) (v := ?_) (a' := ?_) #[true, false, false, false, false, false, false, false, false, false, false, false, false, false, false, false, false] rfl rfl (any_of HT_.out (by kernel_rfl)) (fun _ _ _ h => h) (Or.inl ⟨by rfl, ?_⟩) ?_ ?_
              rotate_left
              · intro w'
                go_simp
                with_reducible rfl
              rotate_left
              · simp only [Act.put, List.setIfInBounds_toArray, List.set_cons_zero, List.set_cons_succ, i64_w, i32_w]
                rfl
              refine pure_ (i := 1) (N := some 43) (v := ?_) (a' := ?_) #[true, true, false, false, false, false, false, false, false, false, false, false, false, false, false, false, false] rfl rfl (any_of HT_.out (by kernel_rfl)) (fun _ _ _ h => h) (Or.inl ⟨by rfl, ?_⟩) ?_ ?_
              rotate_left
              · intro w'
                go_simp
                with_reducible rfl
              rotate_left
              · simp only [Act.put, List.setIfInBounds_toArray, List.set_cons_zero, List.set_cons_succ, i64_w, i32_w]
                rfl
              refine pure_ (i := 3) (N := some 45) (v := ?_) (a' := ?_) #[true, true, false, true, false, false, false, false, false, false, false, false, false, false, false, false, false] rfl rfl (any_of HT_.out (by kernel_rfl)) (fun _ _ _ h => h) (Or.inl ⟨by rfl, ?_⟩) ?_ ?_
              rotate_left
              · intro w'
                go_simp
                with_reducible rfl
              rotate_left
              · simp only [Act.put, List.setIfInBounds_toArray, List.set_cons_zero, List.set_cons_succ, i64_w, i32_w]
                rfl
              refine pure_ (i := 4) (N := some 46) (v := ?_) (a' := ?_) #[true, true, false, true, true, false, false, false, false, false, false, false, false, false, false, false, false] rfl rfl (any_of HT_.out (by kernel_rfl)) (fun _ _ _ h => h) (Or.inl ⟨by rfl, ?_⟩) ?_ ?_
              rotate_left
              · intro w'
                go_simp
                with_reducible rfl
              rotate_left
              · simp only [Act.put, List.setIfInBounds_toArray, List.set_cons_zero, List.set_cons_succ, i64_w, i32_w]
                rfl
              refine take_ (i := 2) (N := some 44) (v := ?_) (a' := ?_) #[true, true, true, true, true, false, false, false, false, false, false, false, false, false, false, false, false] rfl rfl (take_ofW HT_.out HW_.out (by kernel_rfl)) (fun _ _ _ h => h) (Or.inl ⟨by rfl, ?_⟩) hHeld ?_ ?_
              rotate_left
              · rintro w' ⟨s0, s1⟩
                go_simp
                with_reducible rfl
              rotate_left
              · simp only [Act.put, List.setIfInBounds_toArray, List.set_cons_zero, List.set_cons_succ, i64_w, i32_w]
                rfl
              refine take_ (i := 5) (N := some 47) (v := ?_) (a' := ?_) #[true, true, true, true, true, true, false, false, false, false, false, false, false, false, false, false, false] rfl rfl (take_ofW HT_.out HW_.out (by kernel_rfl)) (fun _ _ _ h => h) (Or.inl ⟨by rfl, ?_⟩) hHeld ?_ ?_
              rotate_left
              · rintro w' ⟨s0, s1⟩
                go_simp
                with_reducible rfl
              rotate_left
              · simp only [Act.put, List.setIfInBounds_toArray, List.set_cons_zero, List.set_cons_succ, i64_w, i32_w]
                rfl
              refine one_ (i := 6) (N := some 48) #[true, true, true, true, true, true, true, false, false, false, false, false, false, false, false, false, false] rfl rfl (one_of HT_.out (by kernel_rfl)) (by decide) (fun K hK => ?_)
              refine goes_ Tryd.func33 (by kernel_rfl) rfl #[.slice A378_0 (rd_L3 t369 0).length c378_0, .slice A379_0 (rd_L3 t375 0).length c379_0] (by rfl) rfl rfl (by (try simp only [List.map_toArray, List.map_cons, List.map_nil]); first | done | rfl | (simp only [List.length_drop, List.length_take]; rfl)) ?_
              with_reducible refine (slices_Equal_int_int.calls k1 _ _ (rd_L3 t369 0) _ _ (rd_L3 t375 0) false _ ?side1 ?side2 ?side3 ?side4 A23.out).mono ?_
              (case side1 => repeat (first | exact (by repeat (first | (with_reducible exact HR378_0.out) | (with_reducible refine Kd.C_alloc ?_ _) | (with_reducible refine Kd.C_drewN ?_ _) | (with_reducible refine Kd.C_drew ?_) | exact HR378_0.out)) | (with_reducible refine Kd.C_alloc ?_ _) | (with_reducible refine Kd.C_drewN ?_ _) | (with_reducible refine Kd.C_drew ?_)))
              (case side2 => exact HC378_0.out)
              (case side3 => repeat (first | exact (by repeat (first | (with_reducible exact HR379_0.out) | (with_reducible refine Kd.C_alloc ?_ _) | (with_reducible refine Kd.C_drewN ?_ _) | (with_reducible refine Kd.C_drew ?_) | exact HR379_0.out)) | (with_reducible refine Kd.C_alloc ?_ _) | (with_reducible refine Kd.C_drewN ?_ _) | (with_reducible refine Kd.C_drew ?_)))
              (case side4 => exact HC379_0.out)
              rintro e w' ⟨rfl, ⟨nd, rfl⟩⟩
              refine ⟨_, rfl, ?_⟩
              refine hK.out _ _ ⟨hHeld.1, hHeld.2⟩ (fun hHeld => ?_)
              clear hK K
              refine norm_ (a' := ?_) ?_ ?_
              rotate_left
              · show Act.put _ (some 48) _ = _
                simp only [Act.put, List.setIfInBounds_toArray, List.set_cons_zero, List.set_cons_succ, i64_w, i32_w]
                rfl
              refine pure_ (i := 7) (N := some 49) (v := ?_) (a' := ?_) #[true, true, true, true, true, true, true, true, false, false, false, false, false, false, false, false, false] rfl rfl (any_of HT_.out (by kernel_rfl)) (fun _ _ _ h => h) (Or.inl ⟨by rfl, ?_⟩) ?_ ?_
              rotate_left
              · intro w'
                go_simp
                with_reducible rfl
              rotate_left
              · simp only [Act.put, List.setIfInBounds_toArray, List.set_cons_zero, List.set_cons_succ, i64_w, i32_w]
                rfl
              refine pure_ (i := 8) (N := some 50) (v := undef) (a' := ?_) #[true, true, true, true, true, true, true, true, true, false, false, false, false, false, false, false, false] rfl rfl (any_of HT_.out (by kernel_rfl)) (fun _ _ _ h => h) (Or.inr ⟨by rfl, rfl⟩) ?_ ?_
              rotate_left
              · simp only [Act.put, List.setIfInBounds_toArray, List.set_cons_zero, List.set_cons_succ, i64_w, i32_w]
                rfl
              refine pure_ (i := 9) (N := some 51) (v := undef) (a' := ?_) #[true, true, true, true, true, true, true, true, true, true, false, false, false, false, false, false, false] rfl rfl (any_of HT_.out (by kernel_rfl)) (fun _ _ _ h => h) (Or.inr ⟨by rfl, rfl⟩) ?_ ?_
              rotate_left
              · simp only [Act.put, List.setIfInBounds_toArray, List.set_cons_zero, List.set_cons_succ, i64_w, i32_w]
                rfl
              refine pure_ (i := 10) (N := some 52) (v := undef) (a' := ?_) #[true, true, true, true, true, true, true, true, true, true, true, false, false, false, false, false, false] rfl rfl (any_of HT_.out (by kernel_rfl)) (fun _ _ _ h => h) (Or.inr ⟨by rfl, rfl⟩) ?_ ?_
              rotate_left
              · simp only [Act.put, List.setIfInBounds_toArray, List.set_cons_zero, List.set_cons_succ, i64_w, i32_w]
                rfl
              refine pure_ (i := 11) (N := some 53) (v := undef) (a' := ?_) #[true, true, true, true, true, true, true, true, true, true, true, true, false, false, false, false, false] rfl rfl (any_of HT_.out (by kernel_rfl)) (fun _ _ _ h => h) (Or.inr ⟨by rfl, rfl⟩) ?_ ?_
              rotate_left
              · simp only [Act.put, List.setIfInBounds_toArray, List.set_cons_zero, List.set_cons_succ, i64_w, i32_w]
                rfl
              refine pure_ (i := 12) (N := some 54) (v := undef) (a' := ?_) #[true, true, true, true, true, true, true, true, true, true, true, true, true, false, false, false, false] rfl rfl (any_of HT_.out (by kernel_rfl)) (fun _ _ _ h => h) (Or.inr ⟨by rfl, rfl⟩) ?_ ?_
              rotate_left
              · simp only [Act.put, List.setIfInBounds_toArray, List.set_cons_zero, List.set_cons_succ, i64_w, i32_w]
                rfl
              refine pure_ (i := 13) (N := some 55) (v := undef) (a' := ?_) #[true, true, true, true, true, true, true, true, true, true, true, true, true, true, false, false, false] rfl rfl (any_of HT_.out (by kernel_rfl)) (fun _ _ _ h => h) (Or.inr ⟨by rfl, rfl⟩) ?_ ?_
              rotate_left
              · simp only [Act.put, List.setIfInBounds_toArray, List.set_cons_zero, List.set_cons_succ, i64_w, i32_w]
                rfl
              refine pure_ (i := 14) (N := some 56) (v := undef) (a' := ?_) #[true, true, true, true, true, true, true, true, true, true, true, true, true, true, true, false, false] rfl rfl (any_of HT_.out (by kernel_rfl)) (fun _ _ _ h => h) (Or.inr ⟨by rfl, rfl⟩) ?_ ?_
              rotate_left
              · simp only [Act.put, List.setIfInBounds_toArray, List.set_cons_zero, List.set_cons_succ, i64_w, i32_w]
                rfl
              refine pure_ (i := 15) (N := some 57) (v := ?_) (a' := ?_) #[true, true, true, true, true, true, true, true, true, true, true, true, true, true, true, true, false] rfl rfl (any_of HT_.out (by kernel_rfl)) (fun _ _ _ h => h) (Or.inl ⟨by rfl, ?_⟩) ?_ ?_
              rotate_left
              · intro w'
                go_simp
                with_reducible rfl
              rotate_left
              · simp only [Act.put, List.setIfInBounds_toArray, List.set_cons_zero, List.set_cons_succ, i64_w, i32_w]
                rfl
              refine pure_ (i := 16) (N := some 6) (v := ?_) (a' := ?_) #[true, true, true, true, true, true, true, true, true, true, true, true, true, true, true, true, true] rfl rfl (any_of HT_.out (by kernel_rfl)) (fun _ _ _ h => h) (Or.inl ⟨by rfl, ?_⟩) ?_ ?_
              rotate_left
              · intro w'
                go_simp
                with_reducible rfl
              rotate_left
              · simp only [Act.put, List.setIfInBounds_toArray, List.set_cons_zero, List.set_cons_succ, i64_w, i32_w]
                rfl
              refine done_ (done_of HT_.out (by kernel_rfl)) ?_
              try go_wp2
              go_ret
              exact ⟨by first | rfl | (simp [errW_none, errW_some] <;> rfl) | (simp [*, errW_none, errW_some] <;> rfl), by repeat (first | (with_reducible first | exact HB.out | apply below_alloc | apply pw_below_drewN | apply below_drew1 | refine below_set ?_ GE359.out | refine below_set ?_ GE360.out) | exact HB.out)⟩
          · rw [if_neg c22] at H
            exact absurd H (by simp)
        · rw [if_neg c21] at H
          exact absurd H (by simp)

end
end Go.Proofs.YtjckddaaeiffpaaDoor.Z
