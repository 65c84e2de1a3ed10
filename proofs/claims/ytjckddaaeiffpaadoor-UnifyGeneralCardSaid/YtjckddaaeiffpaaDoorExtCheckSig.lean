/- (term.CheckSig): a given function of the print. -/
import Derived.Test.YtjckddaaeiffpaaDoorZ0
import Derived.Test.YtjckddaaeiffpaaDoorExtName
import Derived.Test.YtjckddaaeiffpaaDoorExtSig
namespace Go.Proofs.YtjckddaaeiffpaaDoor.Z
open Go.RowKit Go.Proofs.YtjckddaaeiffpaaDoorW.PrintWords Go.Proofs.YtjckddaaeiffpaaDoorW.PrintLast Go.Proofs.YtjckddaaeiffpaaDoorW.PrintMore
attribute [local go_sem] max2_int min2_int max_two min_two max_three min_three max_four min_four   -- for this text's walks alone
set_option linter.unusedVariables false
set_option linter.unusedSimpArgs false

noncomputable def term_CheckSig.f (l0 : List S85) : Option Int := open Classical in if sigFine l0 then some (sigErr l0) else none
theorem term_CheckSig.calls (A0 : Option Addr) (c0 : Nat) (l0 : List S85) (r : Int) (w : World) (hr0 : Kd.C k85 w A0 l0.length l0) (hc0 : l0.length ≤ c0) (h : term_CheckSig.f l0 = some r) (hT : Tabs w) :
    Calls Tryd.prog 73 #[.slice A0 l0.length c0] w fun e w' => e = .returned (.int .i64 r) ∧ Below w.heap.size w w' := by
  have hg : sigFine l0 := by
    apply Classical.byContradiction
    intro hn
    rw [term_CheckSig.f, if_neg hn] at h
    simp at h
  rw [term_CheckSig.f, if_pos hg] at h
  obtain rfl := Option.some.inj h
  exact checkSig_calls A0 c0 l0 w hr0 hc0 hg hT
end Go.Proofs.YtjckddaaeiffpaaDoor.Z
