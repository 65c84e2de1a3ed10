/- (law05.shown): a given function of the print: the document's examples of matching. -/
import Derived.Test.YtjckddaaeiffpaaDoorZ0
import Derived.Test.YtjckddaaeiffpaaDoorZ0d
import Derived.Test.YtjckddaaeiffpaaDoorZ2f
import Derived.Test.YtjckddaaeiffpaaDoorExtCanon
import Derived.Test.YtjckddaaeiffpaaDoorExtMatch
import Derived.Test.YtjckddaaeiffpaaDoorExtName
import Derived.Test.YtjckddaaeiffpaaDoorExtSig
import Derived.Test.YtjckddaaeiffpaaDoorExtTree
import Derived.Outline
namespace Go.Proofs.YtjckddaaeiffpaaDoor.Z
open Go.RowKit Go.Proofs.YtjckddaaeiffpaaDoorW.PrintWords Go.Proofs.YtjckddaaeiffpaaDoorW.PrintLast Go.Proofs.YtjckddaaeiffpaaDoorW.PrintMore
attribute [local go_sem] max2_int min2_int max_two min_two max_three min_three max_four min_four   -- for this text's walks alone
set_option linter.unusedVariables false
set_option linter.unusedSimpArgs false

theorem lit_R {W : World} {base g : Nat} (xs : List Int) (hb : W.heap[g]? = some (.cells (xs.map (Value.int .i64)).toArray 3 (0, 0))) (hg : base ≤ g) (hl : xs.length ≤ 1048576) : (Kd.int .i64).R 3 W base (fun _ => True) (.slice (some ⟨g, 0, none⟩) xs.length xs.length) xs := by
  refine Kd.R_of_own (enc := Value.int .i64) ⟨by simp [encs], .inr ⟨g, xs.length, _, rfl, hg, hb, Nat.le_refl _, by unfold maxLen; omega, by simp, ?_⟩⟩ (fun _ _ => trivial)
  simp only [encs, Nat.mul_one]
  show List.take xs.length (List.map (Value.int .i64) xs) = _
  exact List.take_of_length_le (by simp)
theorem lit_C {W : World} {g : Nat} (xs : List Int) (hb : W.heap[g]? = some (.cells (xs.map (Value.int .i64)).toArray 3 (0, 0))) (hl : xs.length ≤ 1048576) : Kd.C (Kd.int .i64) W (some ⟨g, 0, none⟩) xs.length xs := (Kd.R_reads' (lit_R (base := 0) xs hb (Nat.zero_le _) hl)).2.2
theorem binds_C {W : World} {g n1 n2 : Nat} {x y : S30} {A1 A2 : Option Addr} (hb : W.heap[g]? = some (.cells #[.int .i64 x.f0, .slice A1 n1 n1, .int .i64 y.f0, .slice A2 n2 n2] 30 (0, 0))) (e1 : n1 = x.f1.length) (e2 : n2 = y.f1.length)
    (h1 : Kd.C (Kd.int .i64) W A1 x.f1.length x.f1) (h2 : Kd.C (Kd.int .i64) W A2 y.f1.length y.f1) : Kd.C k30 W (some ⟨g, 0, none⟩) 2 [x, y] := by
  subst e1
  subst e2
  refine ⟨rfl, by omega, fun _ => ⟨_, rfl, fun j p hj => ?_⟩⟩
  match j, hj with
  | 0, hj =>
    obtain rfl := Option.some.inj hj
    refine ⟨_, rfl, k30_mk W x (Nat.le_refl _) h1, fun i u hu => ?_⟩
    match i, hu with
    | 0, hu => obtain rfl := Option.some.inj hu; exact blk_cell hb 0
    | 1, hu => obtain rfl := Option.some.inj hu; exact blk_cell hb 1
  | 1, hj =>
    obtain rfl := Option.some.inj hj
    refine ⟨_, rfl, k30_mk W y (Nat.le_refl _) h2, fun i u hu => ?_⟩
    match i, hu with
    | 0, hu => obtain rfl := Option.some.inj hu; exact blk_cell hb 2
    | 1, hu => obtain rfl := Option.some.inj hu; exact blk_cell hb 3
theorem alloc_size (w : World) (o : Obj) : (w.alloc o).heap.size = w.heap.size + 1 := Array.size_push ..
theorem blk_new2 (w : World) (a b : Obj) : ((w.alloc a).alloc b).heap[w.heap.size + 1]? = some b := by
  rw [← alloc_size w a]
  exact blk_new _ _
theorem blk_new3 (w : World) (a b c : Obj) : (((w.alloc a).alloc b).alloc c).heap[w.heap.size + 1 + 1]? = some c := by
  rw [← alloc_size w a, ← alloc_size (w.alloc a) b]
  exact blk_new _ _
theorem blk_new4 (w : World) (a b c d : Obj) : ((((w.alloc a).alloc b).alloc c).alloc d).heap[w.heap.size + 1 + 1 + 1]? = some d := by
  rw [← alloc_size w a, ← alloc_size (w.alloc a) b, ← alloc_size ((w.alloc a).alloc b) c]
  exact blk_new _ _
noncomputable def lodestonelaw05_shown.f : Option Bool := some true
theorem three_is : lodestonelaw05_three.f = some [⟨⟨#[122, 101, 114, 111]⟩, 0⟩, ⟨⟨#[115]⟩, 1⟩, ⟨⟨#[112, 108, 117, 115]⟩, 2⟩] := rfl
abbrev three5 : List S85 := [⟨⟨#[122, 101, 114, 111]⟩, 0⟩, ⟨⟨#[115]⟩, 1⟩, ⟨⟨#[112, 108, 117, 115]⟩, 2⟩]
theorem three_fine : sigFine three5 := by
  intro x hx
  simp only [three5, List.mem_cons, List.not_mem_nil, or_false] at hx
  rcases hx with rfl | rfl | rfl <;> decide
theorem chk_1 : chk three5 [2, -1, -2] = 0 := by kernel_rfl
theorem chk_2 : chk three5 [2, 1, 0, 0] = 0 := by kernel_rfl
theorem chk_3 : chk three5 [2, -1, -1] = 0 := by kernel_rfl
theorem chk_4 : chk three5 [2, 0, 1, 0] = 0 := by kernel_rfl
theorem chk_5 : chk three5 [-1] = 0 := by kernel_rfl
theorem chk_6 : chk three5 [2, -7, -3] = 0 := by kernel_rfl
theorem chk_7 : chk three5 [-7] = 0 := by kernel_rfl
theorem chk_8 : chk three5 [-3] = 0 := by kernel_rfl
theorem go_a : matchGo three5 [2, -1, -2] [2, 1, 0, 0] [] = some [⟨0, [1, 0]⟩, ⟨1, [0]⟩] := by kernel_rfl
theorem go_b : matchGo three5 [2, -1, -1] [2, 0, 1, 0] [] = none := by kernel_rfl
theorem match_a : match_Match.f three5 [2, -1, -2] [2, 1, 0, 0] = some ([⟨0, [1, 0]⟩, ⟨1, [0]⟩], true) := by
  rw [match_Match.f, if_pos ⟨three_fine, by simp, by simp⟩, matchF, if_pos ⟨chk_1, chk_2⟩, go_a]
  simp [sortB, List.mergeSort, List.MergeSort.Internal.splitInTwo, List.merge]
theorem match_b : match_Match.f three5 [2, -1, -1] [2, 0, 1, 0] = some ([], false) := by
  rw [match_Match.f, if_pos ⟨three_fine, by simp, by simp⟩, matchF, if_pos ⟨chk_3, chk_4⟩, go_b]
theorem same_a : lodestonelaw05_same.f 10 [⟨0, [1, 0]⟩, ⟨1, [0]⟩] [⟨0, [1, 0]⟩, ⟨1, [0]⟩] = some true := by kernel_rfl
theorem check_f {t : List Int} (h : chk three5 t = 0) (hl : t.length ≤ 100) : term_Check.f three5 t = some 0 := by
  rw [term_Check.f, if_pos ⟨three_fine, by omega⟩, h]
theorem canon_f (a b : List Int) (h : canonOk [a, b]) : subst_Canon.f [a, b] = some (canonAll [] [a, b]) := if_pos h
theorem canon_1 : canonAll [] [[2, -1, -2], [-1]] = [[2, -1, -2], [-1]] := by kernel_rfl
theorem canon_2 : canonAll [] [[2, -7, -3], [-7]] = [[2, -1, -2], [-1]] := by kernel_rfl
theorem canon_3 : canonAll [] [[2, -7, -3], [-3]] = [[2, -1, -2], [-2]] := by kernel_rfl
theorem eq_1 : slices_Equal_int_int.f 5 [2, -1, -2] [2, -1, -2] = some true := by kernel_rfl
theorem eq_2 : slices_Equal_int_int.f 5 [-1] [-1] = some true := by kernel_rfl
theorem eq_3 : slices_Equal_int_int.f 5 [-1] [-2] = some false := by kernel_rfl
theorem variant_a : match_Variant.f 10 three5 [2, -1, -2] [-1] [2, -7, -3] [-7] = some true := by
  have e1 := check_f chk_1 (by simp)
  have e2 := check_f chk_5 (by simp)
  have e3 := check_f chk_6 (by simp)
  have e4 := check_f chk_7 (by simp)
  have k1 := canon_f [2, -1, -2] [-1] ⟨by simp, by simp⟩
  have k2 := canon_f [2, -7, -3] [-7] ⟨by simp, by simp⟩
  rw [match_Variant.f]
  simp [match_Variant.l0, rd_L3, e1, e2, e3, e4, k1, k2, canon_1, canon_2, canon_3, eq_1, eq_2, eq_3, w64 (x := 1) (by omega) (by omega), w64 (x := 2) (by omega) (by omega), w64 (x := 3) (by omega) (by omega), w64 (x := 4) (by omega) (by omega)]

theorem variant_b : match_Variant.f 10 three5 [2, -1, -2] [-1] [2, -7, -3] [-3] = some false := by
  have e1 := check_f chk_1 (by simp)
  have e2 := check_f chk_5 (by simp)
  have e3 := check_f chk_6 (by simp)
  have e4 := check_f chk_8 (by simp)
  have k1 := canon_f [2, -1, -2] [-1] ⟨by simp, by simp⟩
  have k2 := canon_f [2, -7, -3] [-3] ⟨by simp, by simp⟩
  rw [match_Variant.f]
  simp [match_Variant.l0, rd_L3, e1, e2, e3, e4, k1, k2, canon_1, canon_2, canon_3, eq_1, eq_2, eq_3, w64 (x := 1) (by omega) (by omega), w64 (x := 2) (by omega) (by omega), w64 (x := 3) (by omega) (by omega), w64 (x := 4) (by omega) (by omega)]

set_option maxHeartbeats 4000000 in
set_option maxRecDepth 100000 in
theorem lodestonelaw05_shown.calls (r : Bool) (w : World) (h : lodestonelaw05_shown.f = some r) (hT : Tabs w) :
    Calls Tryd.prog 10 #[] w fun e w' => e = .returned (.bool r) ∧ Below w.heap.size w w' := by
  obtain rfl := Option.some.inj h
  have HT := Aside0.mk hT
  clear h hT
  go_enter Tryd.func10, Tryd.ntmps10
  go_wp2_with fail
  refine (lodestonelaw05_three.calls _ w three_is).mono ?_
  rintro e w1 ⟨v1, rfl, ho1, hb1⟩
  obtain ⟨A1, c1, hv1, hc1, hC1⟩ := Kd.R_reads ho1
  subst hv1
  have HC1 := Aside0.mk hC1
  have HB1 := Aside0.mk hb1
  clear ho1 hC1 hb1
  have cM := fun (W : World) (g1 g2 : Nat) (hb : Below w1.heap.size w1 W) (h1 : W.heap[g1]? = some (.cells #[.int .i64 2, .int .i64 (-1), .int .i64 (-2)] 3 (0, 0))) (h2 : W.heap[g2]? = some (.cells #[.int .i64 2, .int .i64 1, .int .i64 0, .int .i64 0] 3 (0, 0))) => match_Match.calls A1 c1 three5 (some ⟨g1, 0, none⟩) 3 [2, -1, -2] (some ⟨g2, 0, none⟩) 4 [2, 1, 0, 0] _ _ W (Kd.C_below HC1.out hb) hc1 (lit_C [2, -1, -2] h1 (by simp)) (Nat.le_refl _) (lit_C [2, 1, 0, 0] h2 (by simp)) (Nat.le_refl _) match_a (HT.out.below (below_step HB1.out hb))
  have CM := Aside0.mk cM
  clear cM
  go_wp2_with fail
  refine (CM.out _ _ _ ?_ ?_ ?_).mono ?_
  · exact below_alloc (below_alloc (Below.refl _ _) _) _
  · exact blk_alloc (blk_new _ _) _
  · exact blk_new2 _ _ _
  rintro e w2 ⟨v2, rfl, ho2, hb2⟩
  have hb2 := below_step (below_alloc (below_alloc (Below.refl _ _) _) _) hb2
  have HB2 := Aside0.mk hb2
  obtain ⟨A2, c2, hv2, hc2, hC2⟩ := Kd.S_reads ho2
  subst hv2
  have HC2 := Aside0.mk hC2
  clear hC2
  clear ho2 hb2 CM
  have cM := fun (W : World) (g1 g2 : Nat) (hb : Below w1.heap.size w1 W) (h1 : W.heap[g1]? = some (.cells #[.int .i64 2, .int .i64 (-1), .int .i64 (-1)] 3 (0, 0))) (h2 : W.heap[g2]? = some (.cells #[.int .i64 2, .int .i64 0, .int .i64 1, .int .i64 0] 3 (0, 0))) => match_Match.calls A1 c1 three5 (some ⟨g1, 0, none⟩) 3 [2, -1, -1] (some ⟨g2, 0, none⟩) 4 [2, 0, 1, 0] _ _ W (Kd.C_below HC1.out hb) hc1 (lit_C [2, -1, -1] h1 (by simp)) (Nat.le_refl _) (lit_C [2, 0, 1, 0] h2 (by simp)) (Nat.le_refl _) match_b (HT.out.below (below_step HB1.out hb))
  have CM := Aside0.mk cM
  clear cM
  go_wp2_with fail
  refine (CM.out _ _ _ ?_ ?_ ?_).mono ?_
  · exact below_step HB2.out (below_alloc (below_alloc (Below.refl _ _) _) _)
  · exact blk_alloc (blk_new _ _) _
  · exact blk_new2 _ _ _
  rintro e w3 ⟨v3, rfl, ho3, hb3⟩
  have hb3 := below_step (below_alloc (below_alloc (Below.refl _ _) _) _) hb3
  have HB3 := Aside0.mk hb3
  clear ho3 hb3 CM
  have cS := fun (W : World) (g1 g2 g3 : Nat) (hb : Below w2.heap.size w2 W) (h1 : W.heap[g1]? = some (.cells #[.int .i64 1, .int .i64 0] 3 (0, 0))) (h2 : W.heap[g2]? = some (.cells #[.int .i64 0] 3 (0, 0))) (h3 : W.heap[g3]? = some (.cells #[.int .i64 0, .slice (some ⟨g1, 0, none⟩) 2 2, .int .i64 1, .slice (some ⟨g2, 0, none⟩) 1 1] 30 (0, 0))) =>
    lodestonelaw05_same.calls 10 A2 c2 [⟨0, [1, 0]⟩, ⟨1, [0]⟩] (some ⟨g3, 0, none⟩) 2 [⟨0, [1, 0]⟩, ⟨1, [0]⟩] true W (Kd.C_below HC2.out hb) hc2 (binds_C (x := ⟨0, [1, 0]⟩) (y := ⟨1, [0]⟩) h3 rfl rfl (lit_C [1, 0] h1 (by simp)) (lit_C [0] h2 (by simp))) (Nat.le_refl _) same_a
  have CS := Aside0.mk cS
  clear cS
  go_wp2_with fail
  refine (CS.out _ w3.heap.size (w3.heap.size + 1) _ ?_ ?_ ?_ ?_).mono ?_
  · exact below_step HB3.out (below_alloc (below_alloc (below_alloc (Below.refl _ _) _) _) _)
  · exact blk_alloc (blk_alloc (blk_new _ _) _) _
  · exact blk_alloc (blk_new2 _ _ _) _
  · exact blk_new3 _ _ _ _
  rintro e w4 ⟨rfl, hd4⟩
  have hb4 := below_step HB2.out (below_step HB3.out (below_step (below_alloc (below_alloc (below_alloc (Below.refl _ _) _) _) _) hd4.below))
  have HB4 := Aside0.mk hb4
  clear hd4 hb4 CS
  have cV := fun (c : Int) (r : Bool) (hr : match_Variant.f 10 three5 [2, -1, -2] [-1] [2, -7, -3] [c] = some r) (W : World) (g1 g2 g3 g4 : Nat) (hb : Below w1.heap.size w1 W) (h1 : W.heap[g1]? = some (.cells #[.int .i64 2, .int .i64 (-1), .int .i64 (-2)] 3 (0, 0))) (h2 : W.heap[g2]? = some (.cells #[.int .i64 (-1)] 3 (0, 0)))
      (h3 : W.heap[g3]? = some (.cells #[.int .i64 2, .int .i64 (-7), .int .i64 (-3)] 3 (0, 0))) (h4 : W.heap[g4]? = some (.cells #[.int .i64 c] 3 (0, 0))) =>
    match_Variant.calls 10 A1 c1 three5 (fun _ => True) (some ⟨g1, 0, none⟩) 3 [2, -1, -2] (fun _ => True) (some ⟨g2, 0, none⟩) 1 [-1] (fun _ => True) (some ⟨g3, 0, none⟩) 3 [2, -7, -3] (fun _ => True) (some ⟨g4, 0, none⟩) 1 [c] r W (Kd.C_below HC1.out hb) hc1
      (Kd.R_V (lit_R (base := 0) [2, -1, -2] h1 (Nat.zero_le _) (by simp))) (Kd.R_V (lit_R (base := 0) [-1] h2 (Nat.zero_le _) (by simp))) (Kd.R_V (lit_R (base := 0) [2, -7, -3] h3 (Nat.zero_le _) (by simp))) (Kd.R_V (lit_R (base := 0) [c] h4 (Nat.zero_le _) (by simp))) hr (HT.out.below (below_step HB1.out hb))
  have CV := Aside0.mk cV
  clear cV
  go_wp2_with fail
  refine (CV.out (-7) true variant_a _ w4.heap.size (w4.heap.size + 1) (w4.heap.size + 1 + 1) _ ?_ ?_ ?_ ?_ ?_).mono ?_
  · exact below_step HB4.out (below_alloc (below_alloc (below_alloc (below_alloc (Below.refl _ _) _) _) _) _)
  · exact blk_alloc (blk_alloc (blk_alloc (blk_new _ _) _) _) _
  · exact blk_alloc (blk_alloc (blk_new2 _ _ _) _) _
  · exact blk_alloc (blk_new3 _ _ _ _) _
  · exact blk_new4 _ _ _ _ _
  rintro e w5 ⟨rfl, hb5⟩
  have hb5 := below_step HB4.out (below_step (below_alloc (below_alloc (below_alloc (below_alloc (Below.refl _ _) _) _) _) _) hb5)
  have HB5 := Aside0.mk hb5
  clear hb5
  go_wp2_with fail
  refine (CV.out (-3) false variant_b _ w5.heap.size (w5.heap.size + 1) (w5.heap.size + 1 + 1) _ ?_ ?_ ?_ ?_ ?_).mono ?_
  · exact below_step HB5.out (below_alloc (below_alloc (below_alloc (below_alloc (Below.refl _ _) _) _) _) _)
  · exact blk_alloc (blk_alloc (blk_alloc (blk_new _ _) _) _) _
  · exact blk_alloc (blk_alloc (blk_new2 _ _ _) _) _
  · exact blk_alloc (blk_new3 _ _ _ _) _
  · exact blk_new4 _ _ _ _ _
  rintro e w6 ⟨rfl, hb6⟩
  have hb6 := below_step HB1.out (below_step HB5.out (below_step (below_alloc (below_alloc (below_alloc (below_alloc (Below.refl _ _) _) _) _) _) hb6))
  have HB6 := Aside0.mk hb6
  clear hb6 CV
  go_wp2_with fail
  go_ret
  exact ⟨rfl, HB6.out⟩
end Go.Proofs.YtjckddaaeiffpaaDoor.Z
