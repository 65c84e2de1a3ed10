/- Arguments that came in, opened into plain lists: numbers, strings, structs of two, slices of them. What all rows of this seat share: the two tables of unicode/utf8 that they list, a world for the witness, the signature and the rows of codes opened. -/
import Derived.Test.YtjckddaaeiffpaaDoorZ0
import Derived.Test.YtjckddaaeiffpaaDoorExtName
import Derived.Test.YtjckddaaeiffpaaDoorExtSig
import Derived.Test.YtjckddaaeiffpaaDoorRows
import Derived.Carry
import Derived.ChangeSame
import Derived.SizedLaws
import Derived.Deep.Slices
import Derived.Test.YtjckddaaeiffpaaDoorShelf
import Derived.Lib.LaidIn
import Derived.Lib.LaidU8T
import Derived.PinnedBridge
import Derived.Deep.DeepHandedRow
import Derived.Deep.DeepWitnessRowRef
import Derived.ProofKit
namespace Go.Proofs.YtjckddaaeiffpaaDoor.Z
open Go.RowKit Go.Proofs.YtjckddaaeiffpaaDoorW.PrintWords Go.Proofs.YtjckddaaeiffpaaDoorW.PrintLast Go.Proofs.YtjckddaaeiffpaaDoorW.PrintMore
attribute [local go_sem] max2_int min2_int max_two min_two max_three min_three max_four min_four   -- for this text's walks alone
set_option linter.unusedVariables false
set_option linter.unusedSimpArgs false

section
structure Opn (α : Type) where
  d : Kd α
  gd : α → Prop
  wt : Nat → α → Prop
  bk : α → Nat
def Opn.At {α : Type} (o : Opn α) (t : TypeId) : Prop := Tryd.prog.cellsOf t = o.d.sz ∧ ∀ {H : Type} (enc : TypeId × Value → H) (W : World) (fuel : Nat) (cs : List Value) (x : DataW H × List MemPlace),
  DataW.trod enc Tryd.prog W 0 (fun _ => true) true fuel t cs = some x → ∃ v, o.d.K W v cs ∧ o.gd v ∧ (∀ B, (∀ n ∈ x.1.weights Tryd.prog t, n ≤ B) → o.wt B v) ∧ o.bk v ≤ Rows.uptoBulk x.1
def Opn.int (k : IntKind) : Opn Int := ⟨Kd.int k, fun n => (Lit.int k n).wf = true, fun _ _ => True, fun _ => 1⟩
def Opn.string : Opn ByteArray := ⟨Kd.string, fun _ => True, fun B s => s.size ≤ B, fun s => s.size + 1⟩
def Opn.slice {α : Type} (e bytes : Nat) (o : Opn α) : Opn (List α) := ⟨Kd.slice e o.d, fun xs => ∀ x ∈ xs, o.gd x, fun B xs => xs.length * bytes ≤ B ∧ ∀ x ∈ xs, o.wt B x, fun xs => (xs.map o.bk).sum + 1⟩
def Opn.two {α β γ : Type} (a : Opn α) (b : Opn β) (d : Kd γ) (f : γ → α × β) : Opn γ := ⟨d, fun x => a.gd (f x).1 ∧ b.gd (f x).2, fun B x => a.wt B (f x).1 ∧ b.wt B (f x).2, fun x => a.bk (f x).1 + b.bk (f x).2 + 1⟩
theorem Opn.int_at {t : TypeId} (k : IntKind) (ht : Tryd.prog.underlying t = some (.int k)) (hc : Tryd.prog.cellsOf t = 1) : (Opn.int k).At t := by
  refine ⟨hc, fun enc W fuel cs x h => ?_⟩
  obtain ⟨n, rfl, rfl, hw⟩ := DataW.trod_int ht h
  exact ⟨n, rfl, hw, fun _ _ => trivial, by simp [Opn.int, Rows.uptoBulk]⟩
theorem Opn.string_at {t : TypeId} (ht : Tryd.prog.underlying t = some .string) (hc : Tryd.prog.cellsOf t = 1) : Opn.string.At t := by
  refine ⟨hc, fun enc W fuel cs x h => ?_⟩
  obtain ⟨s, rfl, rfl, hw⟩ := DataW.trod_string ht h
  exact ⟨s, rfl, trivial, fun B hB => by simpa [DataW.weights, Opn.string] using hB, by simp [Opn.string, Rows.uptoBulk]⟩
theorem Opn.two_at {α β γ : Type} {a : Opn α} {b : Opn β} {d : Kd γ} {f : γ → α × β} {t : TypeId} {f0 f1 : Field} (hd : d = Kd.iso (Kd.pair a.d b.d) f) (hf : ∀ p, ∃ x, f x = p) (ht : Tryd.prog.underlying t = some (.struct #[f0, f1]))
    (h0 : f0.offset = 0) (h1 : f1.offset = a.d.sz) (ha : a.At f0.type) (hb : b.At f1.type) (hsz : Tryd.prog.cellsOf t = a.d.sz + b.d.sz) : (Opn.two a b d f).At t := by
  subst hd
  refine ⟨hsz, fun enc W fuel cs x h => ?_⟩
  obtain ⟨y0, y1, n, rfl, hl, t0, t1⟩ := Go.ChangeShapes.trod_struct2 ht h
  rw [h0, ha.1, List.drop_zero] at t0
  rw [h1, hb.1] at t1
  obtain ⟨v0, k0, g0, w0, b0⟩ := ha.2 enc W n _ _ t0
  obtain ⟨v1, k1, g1, w1, b1⟩ := hb.2 enc W n _ _ t1
  obtain ⟨v, hv⟩ := hf (v0, v1)
  have e : (cs.drop a.d.sz).take b.d.sz = cs.drop a.d.sz := List.take_of_length_le (by rw [List.length_drop]; omega)
  rw [e] at k1
  refine ⟨v, ⟨cs.take a.d.sz, cs.drop a.d.sz, (List.take_append_drop _ _).symm, by rw [hv]; exact k0, by rw [hv]; exact k1⟩, by show a.gd (f v).1 ∧ b.gd (f v).2; rw [hv]; exact ⟨g0, g1⟩, fun B hB => ?_, ?_⟩
  · show a.wt B (f v).1 ∧ b.wt B (f v).2
    rw [hv]
    have e2 : (DataW.agg [y0.1, y1.1]).weights Tryd.prog t = y0.1.weights Tryd.prog f0.type ++ (y1.1.weights Tryd.prog f1.type ++ []) := by
      simp [DataW.weights, ht, DataW.weightsEach]
    rw [e2] at hB
    exact ⟨w0 B (fun n hn => hB n (by simp [hn])), w1 B (fun n hn => hB n (by simp [hn]))⟩
  · show a.bk (f v).1 + b.bk (f v).2 + 1 ≤ _
    rw [hv]
    simp only [Rows.uptoBulk, Rows.uptoBulkAll]
    omega
theorem weightsAll_mem {H : Type} {e : TypeId} {n : Nat} : ∀ {l : List (DataW H)} {d : DataW H}, d ∈ l → n ∈ d.weights Tryd.prog e → n ∈ DataW.weightsAll Tryd.prog e l := by
  intro l
  induction l with
  | nil => intro d h; cases h
  | cons x r ih =>
    intro d h hn
    rw [DataW.weightsAll]
    rcases List.mem_cons.1 h with rfl | h
    · exact List.mem_append_left _ hn
    · exact List.mem_append_right _ (ih h hn)
theorem bulk_sum {α H : Type} (g : α → Nat) : ∀ (n : Nat) (D : Nat → DataW H) (V : Nat → α), (∀ i, i < n → g (V i) ≤ Rows.uptoBulk (D i)) → (((List.range n).map V).map g).sum ≤ Rows.uptoBulkAll ((List.range n).map D) := by
  have app : ∀ (l r : List (DataW H)), Rows.uptoBulkAll (l ++ r) = Rows.uptoBulkAll l + Rows.uptoBulkAll r := by
    intro l r
    induction l with
    | nil => simp [Rows.uptoBulkAll]
    | cons x l ih => simp only [List.cons_append, Rows.uptoBulkAll, ih]; omega
  intro n
  induction n with
  | zero => intro D V _; simp [Rows.uptoBulkAll]
  | succ n ih =>
    intro D V h
    rw [List.range_succ, List.map_append, List.map_append, List.map_append, List.sum_append, app]
    have h1 := ih D V (fun i hi => h i (by omega))
    have h2 := h n (by omega)
    simp only [List.map_cons, List.map_nil, List.sum_cons, List.sum_nil, Rows.uptoBulkAll]
    omega
theorem Opn.slice_at {α : Type} {o : Opn α} {t e bytes : Nat} (ht : Tryd.prog.underlying t = some (.slice e)) (hc : Tryd.prog.cellsOf t = 1) (hb : Tryd.prog.bytesOf e = bytes) (ho : o.At e) (z : α) : (Opn.slice e bytes o).At t := by
  refine ⟨hc, fun enc W fuel cs x h => ?_⟩
  rcases Go.Deep.open_slice ht h with ⟨rfl, rfl⟩ | ⟨a, len, cap, m, n, D, Pl, rfl, _, hl, hm, hmm, rfl, hel⟩
  · refine ⟨[], ⟨none, 0, rfl, Nat.le_refl _, Kd.C_nil _ _⟩, ?_, ?_, ?_⟩
    · exact fun x hx => by cases hx
    · exact fun B _ => ⟨by simp, fun x hx => by cases hx⟩
    · simp [Opn.slice, Rows.uptoBulk]
  · obtain rfl : cap = m := by simpa using hmm.symm
    have key : ∀ i, ∃ v, i < len → ∃ cs', cs'.length = o.d.sz ∧ (∀ j, j < o.d.sz → W.cell? ((a.add (i * o.d.sz)).add j) = cs'[j]?) ∧ o.d.K W v cs' ∧ o.gd v ∧ (∀ B, (∀ n ∈ (D i).weights Tryd.prog e, n ≤ B) → o.wt B v) ∧ o.bk v ≤ Rows.uptoBulk (D i) := by
      intro i
      by_cases hi : i < len
      · obtain ⟨cs', h1, h2⟩ := hel i (by omega)
        rw [ho.1] at h1
        obtain ⟨_, h3, h4⟩ := World.cells?_some h1
        obtain ⟨v, h5, h6, h7, h8⟩ := ho.2 enc W n cs' _ h2
        exact ⟨v, fun _ => ⟨cs', h3, h4, h5, h6, h7, h8⟩⟩
      · exact ⟨z, fun h => absurd h hi⟩
    obtain ⟨V, hV⟩ := Classical.skolem.1 key
    have hlen : ((List.range len).map V).length = len := by simp
    have hget : ∀ j v, ((List.range len).map V)[j]? = some v → j < len ∧ v = V j := by
      intro j v hj
      have hlt : j < len := by
        have := (List.getElem?_eq_some_iff.1 hj).1
        rwa [hlen] at this
      rw [List.getElem?_map, List.getElem?_range hlt, Option.map_some] at hj
      exact ⟨hlt, (Option.some.inj hj).symm⟩
    refine ⟨(List.range len).map V, ⟨some a, cap, by rw [hlen], by rw [hlen]; exact hl, ?_⟩, ?_, ?_, ?_⟩
    · rw [hlen]
      refine ⟨hlen, by unfold maxLen at hm; omega, fun _ => ⟨a, rfl, fun j v hj => ?_⟩⟩
      obtain ⟨hlt, rfl⟩ := hget j v hj
      obtain ⟨cs', h3, h4, h5, _⟩ := hV j hlt
      refine ⟨cs', h3, h5, fun i u hu => ?_⟩
      have hi : i < o.d.sz := by
        have := (List.getElem?_eq_some_iff.1 hu).1
        omega
      rw [← hu, ← h4 i hi, Addr.add_add]
    · intro v hv
      obtain ⟨j, hj, rfl⟩ := List.mem_map.1 hv
      exact (hV j (List.mem_range.1 hj)).choose_spec.2.2.2.1
    · intro B hB
      have e2 : (DataW.slice ((List.range len).map D) ((List.range (cap - len)).map fun j => D (len + j))).weights Tryd.prog t = (len + (cap - len)) * bytes :: (DataW.weightsAll Tryd.prog e ((List.range len).map D) ++ DataW.weightsAll Tryd.prog e ((List.range (cap - len)).map fun j => D (len + j))) := by
        simp [DataW.weights, ht, hb]
      have hB2 : ∀ n ∈ (len + (cap - len)) * bytes :: (DataW.weightsAll Tryd.prog e ((List.range len).map D) ++ DataW.weightsAll Tryd.prog e ((List.range (cap - len)).map fun j => D (len + j))), n ≤ B := by
        rw [← e2]
        simpa using hB
      refine ⟨?_, fun v hv => ?_⟩
      · have := hB2 _ List.mem_cons_self
        rw [hlen]
        exact Nat.le_trans (Nat.mul_le_mul_right _ (by omega)) this
      · obtain ⟨j, hj, rfl⟩ := List.mem_map.1 hv
        have hj' := List.mem_range.1 hj
        obtain ⟨cs', _, _, _, _, h7, _⟩ := hV j hj'
        exact h7 B (fun n hn => hB2 n (List.mem_cons_of_mem _ (List.mem_append_left _ (weightsAll_mem (List.mem_map.2 ⟨j, hj, rfl⟩) hn))))
    · have := bulk_sum o.bk len D V (fun i hi => by
        obtain ⟨cs', _, _, _, _, _, h8⟩ := hV i hi
        exact h8)
      show (((List.range len).map V).map o.bk).sum + 1 ≤ _
      simp only [Rows.uptoBulk]
      omega
/-- An argument. -/
theorem Opn.arg {α H : Type} {o : Opn α} {t e bytes : Nat} (ho : (Opn.slice e bytes o).At t) {enc : TypeId × Value → H} {W : World} {A : Option Addr} {n c : Nat} {d : DataW H} {ps : List MemPlace} (h : DataW.Trod enc Tryd.prog W 0 (fun _ => true) true t (.slice A n c) d ps) :
    ∃ xs : List α, n = xs.length ∧ xs.length ≤ c ∧ Kd.C o.d W A xs.length xs ∧ (∀ x ∈ xs, o.gd x) ∧ (∀ B, (∀ n ∈ d.weights Tryd.prog t, n ≤ B) → xs.length * bytes ≤ B ∧ ∀ x ∈ xs, o.wt B x) ∧ (xs.map o.bk).sum + 1 ≤ Rows.uptoBulk d := by
  obtain ⟨fuel, hf⟩ := h
  obtain ⟨xs, ⟨A', c', h1, h2, h3⟩, h4, h5, h6⟩ := ho.2 enc W fuel _ _ hf
  simp [Value.cells] at h1
  obtain ⟨rfl, rfl, rfl⟩ := h1
  exact ⟨xs, rfl, h2, h3, h4, h5, h6⟩
theorem weights_arg {H : Type} {ts : List TypeId} {ds : List (DataW H)} {j : Nat} {t : TypeId} {d : DataW H} (h : (DataW.weightsEach Tryd.prog ts ds).all (· ≤ reachBytes) = true) (ht : ts[j]? = some t) (hd : ds[j]? = some d) : ∀ n ∈ d.weights Tryd.prog t, n ≤ 140737488351232 := by
  intro n hn
  have := List.all_eq_true.1 h _ (DataW.weights_mem_each ht hd n hn)
  exact of_decide_eq_true this
theorem bulk_arg {H : Type} {ds : List (DataW H)} {d : DataW H} (h : d ∈ ds) : Rows.uptoBulk d ≤ Rows.uptoBulkAll ds := by
  induction ds with
  | nil => cases h
  | cons x r ih =>
    simp only [Rows.uptoBulkAll]
    rcases List.mem_cons.1 h with rfl | h
    · omega
    · have := ih h; omega
end
section
open Go.Shelf
set_option maxRecDepth 100000
def laidList : List (String × DataW Unit) := [("unicode/utf8.acceptRanges", Rows.laid_unicode_utf8_acceptRanges), ("unicode/utf8.first", Rows.laid_unicode_utf8_first)]
theorem accept_eq : (Rows.laid_unicode_utf8_acceptRanges : DataW Unit) = Lib.acceptData := by kernel_rfl
theorem first_eq : Rows.laid_unicode_utf8_first = Lib.firstData := Pinned.utf8First_eq
theorem laidList_eq : laidList = [("unicode/utf8.acceptRanges", Lib.acceptData), ("unicode/utf8.first", Lib.firstData)] := by unfold laidList; rw [accept_eq, first_eq]
theorem tabs_of {W : World} (h : laidMetH Tryd.prog laidList W) : Tabs W := by
  rw [laidList_eq] at h
  exact utf8Tabs_of_readsT (U8Types.of196 Tryd.laysValid) ⟨by kernel_rfl, by kernel_rfl, by kernel_rfl, by kernel_rfl, by kernel_rfl, by kernel_rfl, by kernel_rfl⟩ (Lib.laidMet.reads h (.tail _ (.head _))) (Lib.laidMet.reads h (.head _))
theorem knob_none : ownKnob Tryd.prog.godebug = none := by kernel_rfl
theorem laidOut : laidOutB Tryd.prog = true := by kernel_rfl
noncomputable def laidWorld (os : Os) : World :=
  let w0 := World.holding Tryd.prog os ⟨#[], #[], []⟩
  let put (h : Array Obj) (g : Nat) (cs : Array Value) : Array Obj := h.modify g fun
    | .cells _ t frozen => .cells cs t frozen
    | o => o
  let h1 := put w0.heap 0 (Lib.firstTab.map fun z => Value.int .u8 z).toArray
  let h2 := put h1 1 ((List.range 16).flatMap fun i => [Value.int .u8 (Lib.accLo i), Value.int .u8 (Lib.accHi i)]).toArray
  { w0 with heap := h2 }
theorem laid_met (os : Os) (args : Array Value) : laidMet Tryd.prog laidList ((laidWorld os).forCall (fun _ _ => 0) ⟨#[], args, []⟩).memory := by
  rw [laidList_eq]
  exact (LaidIn.of_run (l := [("unicode/utf8.acceptRanges", Lib.acceptData), ("unicode/utf8.first", Lib.firstData)]) [1, 0] 8 (by kernel_rfl) (by kernel_rfl) (by kernel_rfl) (by kernel_rfl)).met
/-! #### The kinds of arguments -/
def oInt : Opn Int := Opn.int .i64
theorem oInt_at : oInt.At 3 := Opn.int_at .i64 Tryd.underlying3 (by kernel_rfl)
theorem oInts_at : (Opn.slice 3 8 oInt).At 23 := Opn.slice_at Tryd.underlying23 (by kernel_rfl) (by kernel_rfl) oInt_at 0
def oSym : Opn S85 := Opn.two Opn.string oInt k85 (fun x => (x.f0, x.f1))
theorem oSym_at : oSym.At 85 := Opn.two_at rfl (fun p => ⟨⟨p.1, p.2⟩, rfl⟩) Tryd.underlying85 rfl rfl (Opn.string_at Tryd.underlying9 (by kernel_rfl)) oInt_at (by kernel_rfl)
theorem oSyms_at : (Opn.slice 85 24 oSym).At 22 := Opn.slice_at Tryd.underlying22 (by kernel_rfl) (by kernel_rfl) oSym_at z85
/-- A signature. -/
theorem open_sig {H : Type} {enc : TypeId × Value → H} {W : World} {base : Nat} {v : Value} {d : DataW H} {ps : List MemPlace} (hv : Value.okWide Tryd.prog W .any base 22 v) (h : DataW.Trod enc Tryd.prog W 0 (fun _ => true) true 22 v d ps) :
    ∃ (A : Option Addr) (c : Nat) (l : List S85), v = .slice A l.length c ∧ l.length ≤ c ∧ Kd.C k85 W A l.length l ∧ ((∀ n ∈ d.weights Tryd.prog 22, n ≤ 140737488351232) → l.length * 24 ≤ 140737488351232 ∧ sigFine l) ∧ l.length + 1 ≤ Rows.uptoBulk d := by
  obtain ⟨A, n, c, rfl⟩ := Go.WideShapes.okWide_slice Tryd.underlying22 hv
  obtain ⟨l, rfl, h1, h2, h3, h4, h5⟩ := Opn.arg oSyms_at h
  refine ⟨A, c, l, rfl, h1, h2, fun hw => ?_, ?_⟩
  · obtain ⟨h6, h7⟩ := h4 _ hw
    exact ⟨h6, fun x hx => (h7 x hx).1⟩
  · refine Nat.le_trans (Nat.succ_le_succ ?_) h5
    clear h1 h2 h3 h4 h5 h hv
    induction l with
    | nil => simp
    | cons x r ih =>
      simp only [List.map_cons, List.sum_cons, List.length_cons]
      have : 1 ≤ oSym.bk x := Nat.le_add_left 1 _
      omega
/-- A row of codes. -/
theorem open_row {H : Type} {enc : TypeId × Value → H} {W : World} {base : Nat} {v : Value} {d : DataW H} {ps : List MemPlace} (hv : Value.okWide Tryd.prog W .any base 23 v) (h : DataW.Trod enc Tryd.prog W 0 (fun _ => true) true 23 v d ps) :
    ∃ (A : Option Addr) (c : Nat) (l : List Int), v = .slice A l.length c ∧ l.length ≤ c ∧ Kd.C (Kd.int .i64) W A l.length l ∧ (∀ x ∈ l, (Lit.int .i64 x).wf = true) ∧ ((∀ n ∈ d.weights Tryd.prog 23, n ≤ 140737488351232) → l.length ≤ 17592186043904) ∧ l.length + 1 ≤ Rows.uptoBulk d := by
  obtain ⟨A, n, c, rfl⟩ := Go.WideShapes.okWide_slice Tryd.underlying23 hv
  obtain ⟨l, rfl, h1, h2, h3, h4, h5⟩ := Opn.arg oInts_at h
  refine ⟨A, c, l, rfl, h1, h2, h3, fun hw => ?_, ?_⟩
  · have := (h4 _ hw).1
    omega
  · refine Nat.le_trans (Nat.succ_le_succ ?_) h5
    clear h1 h2 h3 h4 h5 h hv
    induction l with
    | nil => simp
    | cons x r ih =>
      simp only [List.map_cons, List.sum_cons, List.length_cons]
      have : oInt.bk x = 1 := rfl
      omega
end
end Go.Proofs.YtjckddaaeiffpaaDoor.Z
