/- Maps that a call makes, by what lies at their keys, value by value: a 'map[int]T'. -/
import Derived.Test.YtjckddaaeiffpaaDoorZ0
import Derived.Maps.OwnSet
import Derived.WalkMore
import Derived.Outline
namespace Go.Proofs.YtjckddaaeiffpaaDoor.Z
open Go.RowKit Go.Proofs.YtjckddaaeiffpaaDoorW.PrintWords Go.Proofs.YtjckddaaeiffpaaDoorW.PrintLast Go.Proofs.YtjckddaaeiffpaaDoorW.PrintMore
attribute [local go_sem] max2_int min2_int max_two min_two max_three min_three max_four min_four   -- for this text's walks alone
set_option linter.unusedVariables false
set_option linter.unusedSimpArgs false

/-- A value as it lies. -/
def rawR (v : Value) : Option (DataW Value × List MemPlace) := some (.held v, [])
/-- Block b is a map of whole numbers, of at most n entries; what lies at its keys: m. -/
def MapI (w : World) (b n : Nat) (m : Int → Option Value) : Prop :=
  ∃ D : DataW Value, w.ownsMap Tryd.prog 3 rawR b n D ∧ ∀ k, (Lit.int .i64 k).wf = true → Maps.has D (.int .i64 k) = (m k).isSome ∧ ∀ v z, m k = some v → D.atKey (.int .i64 k) z = .held v
theorem keyed_int : Maps.Keyed Tryd.prog 3 := Maps.int_keyed Tryd.underlying3
theorem MapI.made (w : World) : MapI (w.alloc (.map #[] 0)) w.heap.size 0 (fun _ => none) :=
  ⟨.map [], World.ownsMap_made _ _ _ _, fun k _ => ⟨rfl, fun v z h => by simp at h⟩⟩
theorem MapI.step {w w1 : World} {b n : Nat} {m : Int → Option Value} (h : MapI w b n m) (hb : w1.heap[b]? = w.heap[b]?) : MapI w1 b n m := by
  obtain ⟨D, ⟨es, clock, h1, h2⟩, h3⟩ := h
  exact ⟨D, ⟨es, clock, hb.trans h1, h2⟩, h3⟩
theorem MapI.lt {w : World} {b n : Nat} {m : Int → Option Value} (h : MapI w b n m) : b < w.heap.size := by
  obtain ⟨D, ⟨es, clock, h1, h2⟩, h3⟩ := h
  exact (Array.getElem?_eq_some_iff.1 h1).1
theorem MapI.not_cells {w : World} {b n : Nat} {m : Int → Option Value} (h : MapI w b n m) (cs : Array Value) (t : TypeId) (fr : Nat × Nat) : w.heap[b]? ≠ some (.cells cs t fr) := by
  obtain ⟨D, ⟨es, clock, h1, h2⟩, h3⟩ := h
  rw [h1]
  intro e
  injection e with e
  cases e
theorem MapI.look {w : World} {b n : Nat} {m : Int → Option Value} (h : MapI w b n m) {t e : TypeId} (ht : Tryd.prog.underlying t = some (.map 3 e)) {z : Value} (hz : (zeroValue e).run Tryd.prog w = .ok z w) {k : Int} (hk : (Lit.int .i64 k).wf = true) :
    (Instr.lookup t (.map (some b)) (.int .i64 k) true).run Tryd.prog w = .ok (.tuple #[(m k).getD z, .bool (m k).isSome]) w := by
  obtain ⟨D, h1, h2⟩ := h
  obtain ⟨v, ps, hrun, hv⟩ := h1.look_ok keyed_int ht hz (R := rawR) (zd := .held z) (zp := []) rfl (Maps.keyOf_int_mk Tryd.underlying3 hk)
  obtain ⟨h3, h4⟩ := h2 k hk
  rw [hrun, h3]
  cases hm : m k with
  | some u =>
    have := h4 u (.held z) hm
    rw [this] at hv
    simp only [rawR, Option.some.injEq, Prod.mk.injEq, DataW.held.injEq] at hv
    rw [hv.1]
    rfl
  | none =>
    rw [hm] at h3
    have := Maps.atKey_of_not_has h3 (.held z)
    rw [this] at hv
    simp only [rawR, Option.some.injEq, Prod.mk.injEq, DataW.held.injEq] at hv
    rw [hv.1]
    rfl
theorem wpList_lookup_mapI {w : World} {ops : Array Oper} {rest : List Oper} {o : Oper} {a : Act} {Q : Exit → Act → World → Prop} (hg : o.guard = none) (mo x : Operand) (t e : TypeId) (hop : o.op = Op.lookup t mo x true)
    (ht : Tryd.prog.underlying t = some (.map 3 e)) {z : Value} (hz : (zeroValue e).run Tryd.prog w = .ok z w) (b n : Nat) (m : Int → Option Value) (hm : a.eval mo = .map (some b)) (h : MapI w b n m) (k : Int) (hx : a.eval x = .int .i64 k) (hk : (Lit.int .i64 k).wf = true)
    (hK : wpList Tryd.prog ops Q rest (a.put o.dst (.tuple #[(m k).getD z, .bool (m k).isSome])) w) : wpList Tryd.prog ops Q (o :: rest) a w := by
  refine wpList_plain hg fun K' hK' => ?_
  have hrun := h.look ht hz hk
  unfold Oper.wp
  simp [execOp, hop, hm, hx, hrun, Result.andThen]
  exact hK' _ _ hK
theorem wpList_lookup_hit {w : World} {ops : Array Oper} {rest : List Oper} {o : Oper} {a : Act} {Q : Exit → Act → World → Prop} (hg : o.guard = none) (mo x : Operand) (t e : TypeId) (hop : o.op = Op.lookup t mo x true)
    (ht : Tryd.prog.underlying t = some (.map 3 e)) {z : Value} (hz : (zeroValue e).run Tryd.prog w = .ok z w) (b n : Nat) (m : Int → Option Value) (hm : a.eval mo = .map (some b)) (h : MapI w b n m) (k : Int) (hx : a.eval x = .int .i64 k) (hk : (Lit.int .i64 k).wf = true)
    (v : Value) (hv : m k = some v) (hK : wpList Tryd.prog ops Q rest (a.put o.dst (.tuple #[v, .bool true])) w) : wpList Tryd.prog ops Q (o :: rest) a w :=
  wpList_lookup_mapI hg mo x t e hop ht hz b n m hm h k hx hk (by rw [hv]; exact hK)
theorem wpList_lookup_miss {w : World} {ops : Array Oper} {rest : List Oper} {o : Oper} {a : Act} {Q : Exit → Act → World → Prop} (hg : o.guard = none) (mo x : Operand) (t e : TypeId) (hop : o.op = Op.lookup t mo x true)
    (ht : Tryd.prog.underlying t = some (.map 3 e)) {z : Value} (hz : (zeroValue e).run Tryd.prog w = .ok z w) (b n : Nat) (m : Int → Option Value) (hm : a.eval mo = .map (some b)) (h : MapI w b n m) (k : Int) (hx : a.eval x = .int .i64 k) (hk : (Lit.int .i64 k).wf = true)
    (hv : m k = none) (hK : wpList Tryd.prog ops Q rest (a.put o.dst (.tuple #[z, .bool false])) w) : wpList Tryd.prog ops Q (o :: rest) a w :=
  wpList_lookup_mapI hg mo x t e hop ht hz b n m hm h k hx hk (by rw [hv]; exact hK)
theorem wpList_update_mapI {w : World} {ops : Array Oper} {rest : List Oper} {o : Oper} {a : Act} {Q : Exit → Act → World → Prop} (hg : o.guard = none) (mo x v : Operand) (t e : TypeId) (hop : o.op = Op.mapUpdate t mo x v)
    (ht : Tryd.prog.underlying t = some (.map 3 e)) (b n : Nat) (m : Int → Option Value) (hm : a.eval mo = .map (some b)) (h : MapI w b n m) (hn : n < maxLen) (k : Int) (val : Value) (hx : a.eval x = .int .i64 k) (hv : a.eval v = val) (hk : (Lit.int .i64 k).wf = true)
    (hK : ∀ w', MapI w' b (n + 1) (fun k' => if k' = k then some val else m k') → w.grownBy w' (some b) → wpList Tryd.prog ops Q rest (a.put o.dst undef) w') : wpList Tryd.prog ops Q (o :: rest) a w := by
  obtain ⟨D, h1, h2⟩ := h
  refine wpList_mapUpdate_own w hg mo x v t hop 3 e keyed_int ht rawR b n D hm h1 hn (.int .i64 k) val (.int .i64 k) hx hv (Maps.keyOf_int_mk Tryd.underlying3 hk) (.held val) [] rfl ?_
  intro w' h3 h4
  refine hK w' ⟨_, h3, fun k' hk' => ?_⟩ h4
  have hI := h1.isMap
  show _ = (if k' = k then some val else m k').isSome ∧ ∀ v z, (if k' = k then some val else m k') = some v → _
  by_cases e1 : k' = k
  · subst e1
    refine ⟨?_, fun v z hv => ?_⟩
    · rw [if_pos rfl]
      exact Maps.has_put_same hI (show WideAt.IsKeyLit (.int .i64 k') from trivial) _
    · rw [if_pos rfl] at hv
      have hv2 := Option.some.inj hv
      subst hv2
      exact Maps.atKey_put_same hI (show WideAt.IsKeyLit (.int .i64 k') from trivial) _ _
  · have hne : (Lit.int .i64 k') ≠ (Lit.int .i64 k) := by
      intro e
      injection e with _ e
      exact e1 e
    obtain ⟨h5, h6⟩ := h2 k' hk'
    refine ⟨?_, fun v z hv => ?_⟩
    · rw [Maps.has_put_other hne, if_neg e1]
      exact h5
    · rw [if_neg e1] at hv
      rw [Maps.atKey_put_other hne]
      exact h6 v z hv
/-- As MapI, with the number of its entries. -/
def MapS (w : World) (b n : Nat) (m : Int → Option Value) : Prop :=
  ∃ D : DataW Value, w.ownsMap Tryd.prog 3 rawR b n D ∧ Maps.size D = n ∧ ∀ k, (Lit.int .i64 k).wf = true → Maps.has D (.int .i64 k) = (m k).isSome ∧ ∀ v z, m k = some v → D.atKey (.int .i64 k) z = .held v
theorem MapS.I {w : World} {b n : Nat} {m : Int → Option Value} (h : MapS w b n m) : MapI w b n m := by
  obtain ⟨D, h1, _, h2⟩ := h
  exact ⟨D, h1, h2⟩
theorem MapS.made (w : World) : MapS (w.alloc (.map #[] 0)) w.heap.size 0 (fun _ => none) :=
  ⟨.map [], World.ownsMap_made _ _ _ _, rfl, fun k _ => ⟨rfl, fun v z h => by simp at h⟩⟩
theorem MapS.step {w w1 : World} {b n : Nat} {m : Int → Option Value} (h : MapS w b n m) (hb : w1.heap[b]? = w.heap[b]?) : MapS w1 b n m := by
  obtain ⟨D, ⟨es, clock, h1, h2⟩, h3⟩ := h
  exact ⟨D, ⟨es, clock, hb.trans h1, h2⟩, h3⟩
theorem MapI.look1 {w : World} {b n : Nat} {m : Int → Option Value} (h : MapI w b n m) {t e : TypeId} (ht : Tryd.prog.underlying t = some (.map 3 e)) {z : Value} (hz : (zeroValue e).run Tryd.prog w = .ok z w) {k : Int} (hk : (Lit.int .i64 k).wf = true) {v : Value} (hv : m k = some v) :
    (Instr.lookup t (.map (some b)) (.int .i64 k) false).run Tryd.prog w = .ok v w := by
  obtain ⟨D, h1, h2⟩ := h
  obtain ⟨u, ps, hrun, hu⟩ := h1.lookup keyed_int ht hz (R := rawR) (zd := .held z) (zp := []) rfl (Maps.keyOf_int_mk Tryd.underlying3 hk)
  obtain ⟨h3, h4⟩ := h2 k hk
  rw [h4 v (.held z) hv] at hu
  simp only [rawR, Option.some.injEq, Prod.mk.injEq, DataW.held.injEq] at hu
  rw [hrun, hu.1]
theorem wpList_lookup_one {w : World} {ops : Array Oper} {rest : List Oper} {o : Oper} {a : Act} {Q : Exit → Act → World → Prop} (hg : o.guard = none) (mo x : Operand) (t e : TypeId) (hop : o.op = Op.lookup t mo x false)
    (ht : Tryd.prog.underlying t = some (.map 3 e)) {z : Value} (hz : (zeroValue e).run Tryd.prog w = .ok z w) (b n : Nat) (m : Int → Option Value) (hm : a.eval mo = .map (some b)) (h : MapI w b n m) (k : Int) (hx : a.eval x = .int .i64 k) (hk : (Lit.int .i64 k).wf = true)
    (v : Value) (hv : m k = some v) (hK : wpList Tryd.prog ops Q rest (a.put o.dst v) w) : wpList Tryd.prog ops Q (o :: rest) a w := by
  refine wpList_plain hg fun K' hK' => ?_
  have hrun := h.look1 ht hz hk hv
  unfold Oper.wp
  simp [execOp, hop, hm, hx, hrun, Result.andThen]
  exact hK' _ _ hK
theorem wpList_len_mapS {w : World} {ops : Array Oper} {rest : List Oper} {o : Oper} {a : Act} {Q : Exit → Act → World → Prop} (hg : o.guard = none) (mo : Operand) (t e : TypeId) (hop : o.op = Op.call { callee := Callee.builtin Builtin.len, args := #[mo], argTypes := #[t] })
    (ht : Tryd.prog.underlying t = some (.map 3 e)) (b n : Nat) (m : Int → Option Value) (hm : a.eval mo = .map (some b)) (h : MapS w b n m) (hK : wpList Tryd.prog ops Q rest (a.put o.dst (.int .i64 (n : Nat))) w) : wpList Tryd.prog ops Q (o :: rest) a w := by
  obtain ⟨D, h1, h2, _⟩ := h
  refine wpList_len_own w hg mo t hop 3 e ht rawR b n D hm h1 ?_
  rw [h2]
  exact hK
theorem wpList_update_mapS {w : World} {ops : Array Oper} {rest : List Oper} {o : Oper} {a : Act} {Q : Exit → Act → World → Prop} (hg : o.guard = none) (mo x v : Operand) (t e : TypeId) (hop : o.op = Op.mapUpdate t mo x v)
    (ht : Tryd.prog.underlying t = some (.map 3 e)) (b n : Nat) (m : Int → Option Value) (hm : a.eval mo = .map (some b)) (h : MapS w b n m) (hn : n < maxLen) (k : Int) (val : Value) (hx : a.eval x = .int .i64 k) (hv : a.eval v = val) (hk : (Lit.int .i64 k).wf = true) (hnew : m k = none)
    (hK : ∀ w', MapS w' b (n + 1) (fun k' => if k' = k then some val else m k') → w.grownBy w' (some b) → wpList Tryd.prog ops Q rest (a.put o.dst undef) w') : wpList Tryd.prog ops Q (o :: rest) a w := by
  obtain ⟨D, h1, hs, h2⟩ := h
  refine wpList_mapUpdate_own w hg mo x v t hop 3 e keyed_int ht rawR b n D hm h1 hn (.int .i64 k) val (.int .i64 k) hx hv (Maps.keyOf_int_mk Tryd.underlying3 hk) (.held val) [] rfl ?_
  intro w' h3 h4
  have hI := h1.isMap
  refine hK w' ⟨_, h3, ?_, fun k' hk' => ?_⟩ h4
  · rw [Maps.size_put (h1.tidy keyed_int), (h2 k hk).1, hnew]
    simp [hs]
  show _ = (if k' = k then some val else m k').isSome ∧ ∀ v z, (if k' = k then some val else m k') = some v → _
  by_cases e1 : k' = k
  · subst e1
    refine ⟨?_, fun v z hv => ?_⟩
    · rw [if_pos rfl]
      exact Maps.has_put_same hI (show WideAt.IsKeyLit (.int .i64 k') from trivial) _
    · rw [if_pos rfl] at hv
      have hv2 := Option.some.inj hv
      subst hv2
      exact Maps.atKey_put_same hI (show WideAt.IsKeyLit (.int .i64 k') from trivial) _ _
  · have hne : (Lit.int .i64 k') ≠ (Lit.int .i64 k) := by
      intro e
      injection e with _ e
      exact e1 e
    obtain ⟨h5, h6⟩ := h2 k' hk'
    refine ⟨?_, fun v z hv => ?_⟩
    · rw [Maps.has_put_other hne, if_neg e1]
      exact h5
    · rw [if_neg e1] at hv
      rw [Maps.atKey_put_other hne]
      exact h6 v z hv
end Go.Proofs.YtjckddaaeiffpaaDoor.Z
