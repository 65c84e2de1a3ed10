/- Literals of the text: rows of codes and of binds just made. -/
import Derived.Test.YtjckddaaeiffpaaDoorZ0
import Derived.Outline
namespace Go.Proofs.YtjckddaaeiffpaaDoor.Z
open Go.RowKit Go.Proofs.YtjckddaaeiffpaaDoorW.PrintWords Go.Proofs.YtjckddaaeiffpaaDoorW.PrintLast Go.Proofs.YtjckddaaeiffpaaDoorW.PrintMore
attribute [local go_sem] max2_int min2_int max_two min_two max_three min_three max_four min_four   -- for this text's walks alone
set_option linter.unusedVariables false
set_option linter.unusedSimpArgs false

theorem lit_R {W : World} {base g : Nat} (xs : List Int) (hb : W.heap[g]? = some (.cells (xs.map (Value.int .i64)).toArray 3 (0, 0))) (hg : base ≤ g) (hl : xs.length ≤ 1048576) : (Kd.int .i64).R 3 W base (fun _ => True) (.slice (some ⟨g, 0, none⟩) xs.length xs.length) xs := by
  refine Kd.R_of_own (enc := Value.int .i64) ⟨by simp [encs], .inr ⟨g, xs.length, _, rfl, hg, hb, Nat.le_refl _, by unfold maxLen; omega, by simp, ?_⟩⟩ (fun _ _ => trivial)
  simp only [encs, Nat.mul_one]
  show List.take xs.length (List.map (Value.int .i64) xs) = _
  exact List.take_of_length_le (by simp)
theorem lit_C {W : World} {g : Nat} (xs : List Int) (hb : W.heap[g]? = some (.cells (xs.map (Value.int .i64)).toArray 3 (0, 0))) (hl : xs.length ≤ 1048576) : Kd.C (Kd.int .i64) W (some ⟨g, 0, none⟩) xs.length xs := (Kd.R_reads' (lit_R (base := 0) xs hb (Nat.zero_le _) hl)).2.2
theorem binds_C {W : World} {g n1 n2 : Nat} {x y : S30} {A1 A2 : Option Addr} (hb : W.heap[g]? = some (.cells #[.int .i64 x.f0, .slice A1 n1 n1, .int .i64 y.f0, .slice A2 n2 n2] 30 (0, 0))) (e1 : n1 = x.f1.length) (e2 : n2 = y.f1.length)
    (h1 : Kd.C (Kd.int .i64) W A1 x.f1.length x.f1) (h2 : Kd.C (Kd.int .i64) W A2 y.f1.length y.f1) : Kd.C k30 W (some ⟨g, 0, none⟩) 2 [x, y] := by
  subst e1
  subst e2
  refine ⟨rfl, by omega, fun _ => ⟨_, rfl, fun j p hj => ?_⟩⟩
  match j, hj with
  | 0, hj =>
    obtain rfl := Option.some.inj hj
    refine ⟨_, rfl, k30_mk W x (Nat.le_refl _) h1, fun i u hu => ?_⟩
    match i, hu with
    | 0, hu => obtain rfl := Option.some.inj hu; exact blk_cell hb 0
    | 1, hu => obtain rfl := Option.some.inj hu; exact blk_cell hb 1
  | 1, hj =>
    obtain rfl := Option.some.inj hj
    refine ⟨_, rfl, k30_mk W y (Nat.le_refl _) h2, fun i u hu => ?_⟩
    match i, hu with
    | 0, hu => obtain rfl := Option.some.inj hu; exact blk_cell hb 2
    | 1, hu => obtain rfl := Option.some.inj hu; exact blk_cell hb 3
theorem alloc_size (w : World) (o : Obj) : (w.alloc o).heap.size = w.heap.size + 1 := Array.size_push ..
theorem blk_new2 (w : World) (a b : Obj) : ((w.alloc a).alloc b).heap[w.heap.size + 1]? = some b := by
  rw [← alloc_size w a]
  exact blk_new _ _
theorem blk_new3 (w : World) (a b c : Obj) : (((w.alloc a).alloc b).alloc c).heap[w.heap.size + 1 + 1]? = some c := by
  rw [← alloc_size w a, ← alloc_size (w.alloc a) b]
  exact blk_new _ _
theorem blk_new4 (w : World) (a b c d : Obj) : ((((w.alloc a).alloc b).alloc c).alloc d).heap[w.heap.size + 1 + 1 + 1]? = some d := by
  rw [← alloc_size w a, ← alloc_size (w.alloc a) b, ← alloc_size ((w.alloc a).alloc b) c]
  exact blk_new _ _
theorem zero_intL (w : World) : (zeroValue 3).run Tryd.prog w = .ok (.int .i64 0) w := by kernel_rfl
end Go.Proofs.YtjckddaaeiffpaaDoor.Z
