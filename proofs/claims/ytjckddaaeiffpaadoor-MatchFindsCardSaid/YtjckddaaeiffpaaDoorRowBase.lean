/- What all rows of this seat share: the two tables of unicode/utf8 that they list, a world for the witness, the signature and the rows of codes opened. -/
import Derived.Test.YtjckddaaeiffpaaDoorZ0
import Derived.Test.YtjckddaaeiffpaaDoorExtName
import Derived.Test.YtjckddaaeiffpaaDoorExtSig
import Derived.Test.YtjckddaaeiffpaaDoorOpen
import Derived.Test.YtjckddaaeiffpaaDoorRows
import Derived.Test.YtjckddaaeiffpaaDoorShelf
import Derived.Lib.LaidIn
import Derived.Lib.LaidU8T
import Derived.PinnedBridge
import Derived.Deep.DeepHandedRow
import Derived.Deep.DeepWitnessRowRef
import Derived.ProofKit
import Derived.SizedLaws
namespace Go.Proofs.YtjckddaaeiffpaaDoor.Z
open Go.RowKit Go.Proofs.YtjckddaaeiffpaaDoorW.PrintWords Go.Proofs.YtjckddaaeiffpaaDoorW.PrintLast Go.Proofs.YtjckddaaeiffpaaDoorW.PrintMore
attribute [local go_sem] max2_int min2_int max_two min_two max_three min_three max_four min_four   -- for this text's walks alone
set_option linter.unusedVariables false
set_option linter.unusedSimpArgs false

open Go.Shelf
set_option maxRecDepth 100000
def laidList : List (String × DataW Unit) := [("unicode/utf8.acceptRanges", Rows.laid_unicode_utf8_acceptRanges), ("unicode/utf8.first", Rows.laid_unicode_utf8_first)]
theorem accept_eq : (Rows.laid_unicode_utf8_acceptRanges : DataW Unit) = Lib.acceptData := by kernel_rfl
theorem first_eq : Rows.laid_unicode_utf8_first = Lib.firstData := Pinned.utf8First_eq
theorem laidList_eq : laidList = [("unicode/utf8.acceptRanges", Lib.acceptData), ("unicode/utf8.first", Lib.firstData)] := by unfold laidList; rw [accept_eq, first_eq]
theorem tabs_of {W : World} (h : laidMetH Tryd.prog laidList W) : Tabs W := by
  rw [laidList_eq] at h
  exact utf8Tabs_of_readsT (U8Types.of196 Tryd.laysValid) ⟨by kernel_rfl, by kernel_rfl, by kernel_rfl, by kernel_rfl, by kernel_rfl, by kernel_rfl, by kernel_rfl⟩ (Lib.laidMet.reads h (.tail _ (.head _))) (Lib.laidMet.reads h (.head _))
theorem own : ownKnob Tryd.prog.godebug = none := by kernel_rfl
theorem laidOut : laidOutB Tryd.prog = true := by kernel_rfl
noncomputable def laidWorld (os : Os) : World :=
  let w0 := World.holding Tryd.prog os ⟨#[], #[], []⟩
  let put (h : Array Obj) (g : Nat) (cs : Array Value) : Array Obj := h.modify g fun
    | .cells _ t frozen => .cells cs t frozen
    | o => o
  let h1 := put w0.heap 0 (Lib.firstTab.map fun z => Value.int .u8 z).toArray
  let h2 := put h1 1 ((List.range 16).flatMap fun i => [Value.int .u8 (Lib.accLo i), Value.int .u8 (Lib.accHi i)]).toArray
  { w0 with heap := h2 }
theorem laid_met (os : Os) (args : Array Value) : laidMet Tryd.prog laidList ((laidWorld os).forCall (fun _ _ => 0) ⟨#[], args, []⟩).memory := by
  rw [laidList_eq]
  exact (LaidIn.of_run (l := [("unicode/utf8.acceptRanges", Lib.acceptData), ("unicode/utf8.first", Lib.firstData)]) [1, 0] 8 (by kernel_rfl) (by kernel_rfl) (by kernel_rfl) (by kernel_rfl)).met
/-! #### The kinds of arguments -/
def oInt : Opn Int := Opn.int .i64
theorem oInt_at : oInt.At 3 := Opn.int_at .i64 Tryd.underlying3 (by kernel_rfl)
theorem oInts_at : (Opn.slice 3 8 oInt).At 23 := Opn.slice_at Tryd.underlying23 (by kernel_rfl) (by kernel_rfl) oInt_at 0
def oSym : Opn S85 := Opn.two Opn.string oInt k85 (fun x => (x.f0, x.f1))
theorem oSym_at : oSym.At 85 := Opn.two_at rfl (fun p => ⟨⟨p.1, p.2⟩, rfl⟩) Tryd.underlying85 rfl rfl (Opn.string_at Tryd.underlying9 (by kernel_rfl)) oInt_at (by kernel_rfl)
theorem oSyms_at : (Opn.slice 85 24 oSym).At 22 := Opn.slice_at Tryd.underlying22 (by kernel_rfl) (by kernel_rfl) oSym_at z85
/-- A signature. -/
theorem open_sig {H : Type} {enc : TypeId × Value → H} {W : World} {base : Nat} {v : Value} {d : DataW H} {ps : List MemPlace} (hv : Value.okWide Tryd.prog W .any base 22 v) (h : DataW.Trod enc Tryd.prog W 0 (fun _ => true) true 22 v d ps) :
    ∃ (A : Option Addr) (c : Nat) (l : List S85), v = .slice A l.length c ∧ l.length ≤ c ∧ Kd.C k85 W A l.length l ∧ ((∀ n ∈ d.weights Tryd.prog 22, n ≤ 140737488351232) → l.length * 24 ≤ 140737488351232 ∧ sigFine l) ∧ l.length + 1 ≤ Rows.uptoBulk d := by
  obtain ⟨A, n, c, rfl⟩ := Go.WideShapes.okWide_slice Tryd.underlying22 hv
  obtain ⟨l, rfl, h1, h2, h3, h4, h5⟩ := Opn.arg oSyms_at h
  refine ⟨A, c, l, rfl, h1, h2, fun hw => ?_, ?_⟩
  · obtain ⟨h6, h7⟩ := h4 _ hw
    exact ⟨h6, fun x hx => (h7 x hx).1⟩
  · refine Nat.le_trans (Nat.succ_le_succ ?_) h5
    clear h1 h2 h3 h4 h5 h hv
    induction l with
    | nil => simp
    | cons x r ih =>
      simp only [List.map_cons, List.sum_cons, List.length_cons]
      have : 1 ≤ oSym.bk x := Nat.le_add_left 1 _
      omega
/-- A row of codes. -/
theorem open_row {H : Type} {enc : TypeId × Value → H} {W : World} {base : Nat} {v : Value} {d : DataW H} {ps : List MemPlace} (hv : Value.okWide Tryd.prog W .any base 23 v) (h : DataW.Trod enc Tryd.prog W 0 (fun _ => true) true 23 v d ps) :
    ∃ (A : Option Addr) (c : Nat) (l : List Int), v = .slice A l.length c ∧ l.length ≤ c ∧ Kd.C (Kd.int .i64) W A l.length l ∧ (∀ x ∈ l, (Lit.int .i64 x).wf = true) ∧ ((∀ n ∈ d.weights Tryd.prog 23, n ≤ 140737488351232) → l.length ≤ 17592186043904) ∧ l.length + 1 ≤ Rows.uptoBulk d := by
  obtain ⟨A, n, c, rfl⟩ := Go.WideShapes.okWide_slice Tryd.underlying23 hv
  obtain ⟨l, rfl, h1, h2, h3, h4, h5⟩ := Opn.arg oInts_at h
  refine ⟨A, c, l, rfl, h1, h2, h3, fun hw => ?_, ?_⟩
  · have := (h4 _ hw).1
    omega
  · refine Nat.le_trans (Nat.succ_le_succ ?_) h5
    clear h1 h2 h3 h4 h5 h hv
    induction l with
    | nil => simp
    | cons x r ih =>
      simp only [List.map_cons, List.sum_cons, List.length_cons]
      have : oInt.bk x = 1 := rfl
      omega
end Go.Proofs.YtjckddaaeiffpaaDoor.Z
