/- (lodestone/unify): nodes by their blocks; variable.behind, tree.behind, end. (lodestone/unify.one): two nodes made one. (lodestone/unify.measure, row): how many nodes a node's term has; that term. -/
import Derived.Test.YtjckddaaeiffpaaDoorZ0
import Derived.Outline
import Derived.Deep.RegionWith
import Derived.LaidEql
import Derived.StillTailTactics
namespace Go.Proofs.YtjckddaaeiffpaaDoor.Z
open Go.RowKit Go.Proofs.YtjckddaaeiffpaaDoorW.PrintWords Go.Proofs.YtjckddaaeiffpaaDoorW.PrintLast Go.Proofs.YtjckddaaeiffpaaDoorW.PrintMore
attribute [local go_sem] max2_int min2_int max_two min_two max_three min_three max_four min_four   -- for this text's walks alone
set_option linter.unusedVariables false
set_option linter.unusedSimpArgs false

section
/-- A node: a variable, or a tree with its kids (and where their row lies). -/
inductive UN where
  | var (num : Int)
  | tree (code : Int) (kids : List Nat) (A : Option Addr) (cap : Nat)
abbrev UG := Nat → Option UN
def ifv (G : UG) (b : Nat) : Value := match G b with
  | some (.tree _ _ _ _) => .iface 104 (.pointer (some ⟨b, 0, none⟩))
  | _ => .iface 67 (.pointer (some ⟨b, 0, none⟩))
def isv (G : UG) : Option Nat → Value
  | none => .nilIface
  | some b => ifv G b
theorem ifv_var {G : UG} {b : Nat} {n : Int} (h : G b = some (.var n)) : ifv G b = .iface 67 (.pointer (some ⟨b, 0, none⟩)) := by unfold ifv; rw [h]
theorem ifv_tree {G : UG} {b : Nat} {c : Int} {ks : List Nat} {A : Option Addr} {cap : Nat} (h : G b = some (.tree c ks A cap)) : ifv G b = .iface 104 (.pointer (some ⟨b, 0, none⟩)) := by unfold ifv; rw [h]
/-- What lies in memory of it. -/
structure UBoard (G : UG) (is : Nat → Option Nat) (sz : Nat → Int) (w : World) : Prop where
  var : ∀ b n, G b = some (.var n) → w.heap[b]? = some (.cells #[.int .i64 n, isv G (is b)] 71 (0, 0))
  tree : ∀ b c ks A cap, G b = some (.tree c ks A cap) → w.heap[b]? = some (.cells #[.int .i64 c, .slice A ks.length cap, isv G (is b), .int .i64 (sz b)] 107 (0, 0))
  kid : ∀ b c ks A cap, G b = some (.tree c ks A cap) → ∀ i (h : i < ks.length), ∃ ad, A = some ad ∧ G ad.block = none ∧ w.cell? (ad.add i) = some (ifv G ks[i])
  closed : ∀ b c ks A cap, G b = some (.tree c ks A cap) → ∀ k, k ∈ ks → (G k).isSome
  isIn : ∀ b r, is b = some r → (G r).isSome
  num : ∀ b n, G b = some (.var n) → 0 ≤ n ∧ n ≤ 1048575
  few : ∀ b c ks A cap, G b = some (.tree c ks A cap) → ks.length ≤ 1048576
def rootF : Nat → (Nat → Option Nat) → Nat → Option Nat
  | 0, _, _ => none
  | k + 1, is, b => match is b with
    | none => some b
    | some c => rootF k is c
theorem rootF_none {k : Nat} {is : Nat → Option Nat} {b : Nat} (h : is b = none) : rootF (k + 1) is b = some b := by rw [rootF, h]
theorem rootF_some {k : Nat} {is : Nat → Option Nat} {b c : Nat} (h : is b = some c) : rootF (k + 1) is b = rootF k is c := by rw [rootF, h]
theorem root_in {G : UG} {is : Nat → Option Nat} (hin : ∀ b r, is b = some r → (G r).isSome) : ∀ {k b r : Nat}, rootF k is b = some r → (G b).isSome → (G r).isSome ∧ is r = none := by
  intro k
  induction k with
  | zero => intro b r h; simp [rootF] at h
  | succ k ih =>
    intro b r h hb
    cases hi : is b with
    | none => rw [rootF_none hi] at h; obtain rfl := Option.some.inj h; exact ⟨hb, hi⟩
    | some c => rw [rootF_some hi] at h; exact ih h (hin b c hi)
theorem meth_var (a : Addr) (w : World) : (method 270 67 (.pointer (some a)) "lodestone/unify.behind").run Tryd.prog w = .ok (119, .pointer (some a)) w := by kernel_rfl
theorem meth_tree (a : Addr) (w : World) : (method 270 104 (.pointer (some a)) "lodestone/unify.behind").run Tryd.prog w = .ok (120, .pointer (some a)) w := by kernel_rfl
theorem behind_var (b : Nat) (v : Value) (w : World) (h : w.cell? ⟨b, 1, none⟩ = some v) (hv : v = .nilIface ∨ ∃ T u, v = .iface T u) : Calls Tryd.prog 119 #[.pointer (some ⟨b, 0, none⟩)] w fun e w' => e = .returned v ∧ w = w' := by
  rcases hv with rfl | ⟨T, u, rfl⟩
  · go_enter Tryd.func119, Tryd.ntmps119
    go_wp2
    go_ret
    exact ⟨rfl, rfl⟩
  · go_enter Tryd.func119, Tryd.ntmps119
    go_wp2
    go_ret
    exact ⟨rfl, rfl⟩
theorem behind_tree (b : Nat) (v : Value) (w : World) (h : w.cell? ⟨b, 2, none⟩ = some v) (hv : v = .nilIface ∨ ∃ T u, v = .iface T u) : Calls Tryd.prog 120 #[.pointer (some ⟨b, 0, none⟩)] w fun e w' => e = .returned v ∧ w = w' := by
  rcases hv with rfl | ⟨T, u, rfl⟩
  · go_enter Tryd.func120, Tryd.ntmps120
    go_wp2
    go_ret
    exact ⟨rfl, rfl⟩
  · go_enter Tryd.func120, Tryd.ntmps120
    go_wp2
    go_ret
    exact ⟨rfl, rfl⟩
theorem ifv_form (G : UG) (b : Nat) : ∃ T, ifv G b = .iface T (.pointer (some ⟨b, 0, none⟩)) := by
  unfold ifv
  split
  · exact ⟨_, rfl⟩
  · exact ⟨_, rfl⟩
theorem isv_form (G : UG) (o : Option Nat) : isv G o = .nilIface ∨ ∃ T u, isv G o = .iface T u := by
  cases o with
  | none => exact .inl rfl
  | some b => obtain ⟨T, h⟩ := ifv_form G b; exact .inr ⟨T, _, h⟩
set_option maxHeartbeats 1000000 in
set_option maxRecDepth 100000 in
theorem end_calls {G : UG} {is : Nat → Option Nat} {sz : Nat → Int} {w : World} (hB : UBoard G is sz w) (k b r : Nat) (hr : rootF k is b = some r) (hb : (G b).isSome) :
    Calls Tryd.prog 63 #[ifv G b] w fun e w' => e = .returned (ifv G r) ∧ w = w' := by
  have HB := Aside0.mk hB
  have HR := Aside0.mk hr
  have HI := Aside0.mk hb
  have hmv := meth_var
  have hmt := meth_tree
  clear hB hr hb
  obtain ⟨T0, hT0⟩ := ifv_form G b
  have HT0 := Aside0.mk hT0
  rw [hT0]
  clear hT0
  go_enter Tryd.func63, Tryd.ntmps63
  go_wp2
  go_loopg [0] k (fun kq v0 wx => ∃ b', v0 = ifv G b' ∧ w = wx ∧ rootF kq is b' = some r ∧ (G b').isSome)
  case atStart => exact ⟨b, HT0.out.symm, rfl, HR.out, HI.out⟩
  case round =>
    obtain ⟨b', rfl, rfl, hr, hb⟩ := hrel
    obtain ⟨k1, rfl⟩ : ∃ k1, gk = k1 + 1 := by
      cases gk with
      | zero => simp [rootF] at hr
      | succ k1 => exact ⟨k1, rfl⟩
    cases hG : G b' with
    | none => rw [hG] at hb; simp at hb
    | some nd =>
      cases his : is b' with
      | none =>
        rw [rootF_none his] at hr
        obtain rfl := Option.some.inj hr
        cases nd with
        | var n =>
          have hblk := HB.out.var b' n hG
          rw [his] at hblk
          have hc := (blk_cell hblk 1).trans rfl
          have e := ifv_var hG
          have E := Aside0.mk e
          rw [e]
          clear hblk hr hb hG his e
          go_wp2_with (go_at_call 119; refine (behind_var b' .nilIface w hc (.inl rfl)).mono ?_; rintro e w' ⟨rfl, rfl⟩)
          go_ret
          exact ⟨by rw [E.out]; rfl, rfl⟩
        | tree c ks A cap =>
          have hblk := HB.out.tree b' c ks A cap hG
          rw [his] at hblk
          have hc := (blk_cell hblk 2).trans rfl
          have e := ifv_tree hG
          have E := Aside0.mk e
          rw [e]
          clear hblk hr hb hG his e
          go_wp2_with (go_at_call 120; refine (behind_tree b' .nilIface w hc (.inl rfl)).mono ?_; rintro e w' ⟨rfl, rfl⟩)
          go_ret
          exact ⟨by rw [E.out]; rfl, rfl⟩
      | some d =>
        rw [rootF_some his] at hr
        obtain ⟨T, hT⟩ := ifv_form G d
        have HD := Aside0.mk (HB.out.isIn b' d his)
        have HR' := Aside0.mk hr
        have HT := Aside0.mk hT
        cases nd with
        | var n =>
          have hblk := HB.out.var b' n hG
          rw [his, isv, hT] at hblk
          have hc := (blk_cell hblk 1).trans rfl
          have e := ifv_var hG
          rw [e]
          clear hblk hr hb hG his e hT
          go_wp2_with (go_at_call 119; refine (behind_var b' (.iface T (.pointer (some ⟨d, 0, none⟩))) w hc (.inr ⟨_, _, rfl⟩)).mono ?_; rintro e w' ⟨rfl, rfl⟩)
          go_roundg k1
          case measure => omega
          case rel => exact ⟨d, HT.out.symm, rfl, HR'.out, HD.out⟩
        | tree c ks A cap =>
          have hblk := HB.out.tree b' c ks A cap hG
          rw [his, isv, hT] at hblk
          have hc := (blk_cell hblk 2).trans rfl
          have e := ifv_tree hG
          rw [e]
          clear hblk hr hb hG his e hT
          go_wp2_with (go_at_call 120; refine (behind_tree b' (.iface T (.pointer (some ⟨d, 0, none⟩))) w hc (.inr ⟨_, _, rfl⟩)).mono ?_; rintro e w' ⟨rfl, rfl⟩)
          go_roundg k1
          case measure => omega
          case rel => exact ⟨d, HT.out.symm, rfl, HR'.out, HD.out⟩
end
section
def upd (is : Nat → Option Nat) (x y : Nat) : Nat → Option Nat := fun k => if k = x then some y else is k
def kidsF (f : (Nat → Option Nat) → Nat → Nat → Option ((Nat → Option Nat) × Bool)) : (Nat → Option Nat) → List Nat → List Nat → Option ((Nat → Option Nat) × Bool)
  | is, [], _ => some (is, true)
  | _, _ :: _, [] => none
  | is, a :: r, b :: s => match f is a b with
    | none => none
    | some (is', true) => kidsF f is' r s
    | some (is', false) => some (is', false)
def oneF : Nat → UG → (Nat → Option Nat) → Nat → Nat → Option ((Nat → Option Nat) × Bool)
  | 0, _, _, _, _ => none
  | k + 1, G, is, x, y => match rootF k is x, rootF k is y with
    | some x', some y' => if x' = y' then some (is, true) else
      match G x', G y' with
      | some (.var m), some (.var n) => if m > n then some (upd is x' y', true) else some (upd is y' x', true)
      | some (.var _), some (.tree _ _ _ _) => some (upd is x' y', true)
      | some (.tree _ _ _ _), some (.var _) => some (upd is y' x', true)
      | some (.tree c ks _ _), some (.tree d ls _ _) => if c = d then kidsF (oneF k G) (upd is x' y') ks ls else some (is, false)
      | _, _ => none
    | _, _ => none
theorem comp_var : (Tryd.prog.info? 67).map (fun i => i.comparable) = some true := by kernel_rfl
theorem comp_tree : (Tryd.prog.info? 104).map (fun i => i.comparable) = some true := by kernel_rfl
theorem info_variable : (Tryd.prog.info? 71).map (fun i => i.size) = some 2 := by kernel_rfl
theorem info_treeS : (Tryd.prog.info? 107).map (fun i => i.size) = some 4 := by kernel_rfl
theorem eql_var_same (a : Addr) (w : World) : (binOp .eql 69 (.iface 67 (.pointer (some a))) (.iface 67 (.pointer (some a)))).run Tryd.prog w = .ok (.bool true) w := by
  obtain ⟨i, h1, h2⟩ := Option.map_eq_some_iff.1 comp_var
  obtain ⟨j, h3, _⟩ := Option.map_eq_some_iff.1 info_variable
  exact run_eql_iface_ptr_same w a Tryd.underlying69 Tryd.underlying67 h1 h2 h3
theorem eql_tree_same (a : Addr) (w : World) : (binOp .eql 69 (.iface 104 (.pointer (some a))) (.iface 104 (.pointer (some a)))).run Tryd.prog w = .ok (.bool true) w := by
  obtain ⟨i, h1, h2⟩ := Option.map_eq_some_iff.1 comp_tree
  obtain ⟨j, h3, _⟩ := Option.map_eq_some_iff.1 info_treeS
  exact run_eql_iface_ptr_same w a Tryd.underlying69 Tryd.underlying104 h1 h2 h3
theorem eql_var_other {a b : Nat} {w : World} {ca cb : Array Value} {ta tb : TypeId} (hne : a ≠ b) (ha : w.heap[a]? = some (.cells ca ta (0, 0))) (hb : w.heap[b]? = some (.cells cb tb (0, 0))) : (binOp .eql 69 (.iface 67 (.pointer (some ⟨a, 0, none⟩))) (.iface 67 (.pointer (some ⟨b, 0, none⟩)))).run Tryd.prog w = .ok (.bool false) w := by
  obtain ⟨i, h1, h2⟩ := Option.map_eq_some_iff.1 comp_var
  obtain ⟨j, h3, h4⟩ := Option.map_eq_some_iff.1 info_variable
  exact run_eql_iface_ptr_other w Tryd.underlying69 Tryd.underlying67 h1 h2 h3 (by rw [h4]; decide) (fun e => hne (by injection e)) ha hb
theorem eql_tree_other {a b : Nat} {w : World} {ca cb : Array Value} {ta tb : TypeId} (hne : a ≠ b) (ha : w.heap[a]? = some (.cells ca ta (0, 0))) (hb : w.heap[b]? = some (.cells cb tb (0, 0))) : (binOp .eql 69 (.iface 104 (.pointer (some ⟨a, 0, none⟩))) (.iface 104 (.pointer (some ⟨b, 0, none⟩)))).run Tryd.prog w = .ok (.bool false) w := by
  obtain ⟨i, h1, h2⟩ := Option.map_eq_some_iff.1 comp_tree
  obtain ⟨j, h3, h4⟩ := Option.map_eq_some_iff.1 info_treeS
  exact run_eql_iface_ptr_other w Tryd.underlying69 Tryd.underlying104 h1 h2 h3 (by rw [h4]; decide) (fun e => hne (by injection e)) ha hb
theorem eql_var_tree (a b : Addr) (w : World) : (binOp .eql 69 (.iface 67 (.pointer (some a))) (.iface 104 (.pointer (some b)))).run Tryd.prog w = .ok (.bool false) w := by
  have h : ∀ d : Nat, (Op.equalIn (d + 1) 69 (.iface 67 (.pointer (some a))) (.iface 104 (.pointer (some b)))).run Tryd.prog w = .ok false w := fun d => by simp [Op.equalIn, run_underlying Tryd.underlying69]
  simp only [binOp]
  simp [Op.equal, Op.maxDepth, h 9999]
theorem eql_tree_var (a b : Addr) (w : World) : (binOp .eql 69 (.iface 104 (.pointer (some a))) (.iface 67 (.pointer (some b)))).run Tryd.prog w = .ok (.bool false) w := by
  have h : ∀ d : Nat, (Op.equalIn (d + 1) 69 (.iface 104 (.pointer (some a))) (.iface 67 (.pointer (some b)))).run Tryd.prog w = .ok false w := fun d => by simp [Op.equalIn, run_underlying Tryd.underlying69]
  simp only [binOp]
  simp [Op.equal, Op.maxDepth, h 9999]
set_option maxRecDepth 100000 in
theorem ta_var (v : Value) (W : World) : (Instr.typeAssert (.iface 67 v) 69 67 true).run Tryd.prog W = .ok (.tuple #[v, .bool true]) W := by rfl
set_option maxRecDepth 100000 in
theorem ta_var_no (v : Value) (W : World) : (Instr.typeAssert (.iface 104 v) 69 67 true).run Tryd.prog W = .ok (.tuple #[.pointer none, .bool false]) W := by rfl
set_option maxRecDepth 100000 in
theorem ta_tree (v : Value) (W : World) : (Instr.typeAssert (.iface 104 v) 69 104 false).run Tryd.prog W = .ok v W := by rfl
theorem UBoard.kept {G : UG} {is : Nat → Option Nat} {sz : Nat → Int} {w w1 : World} (h : UBoard G is sz w) (hk : ∀ b, b < w.heap.size → w1.heap[b]? = w.heap[b]?) : UBoard G is sz w1 where
  var := fun b n hb => (hk b (blk_lt (h.var b n hb))).trans (h.var b n hb)
  tree := fun b c ks A cap hb => (hk b (blk_lt (h.tree b c ks A cap hb))).trans (h.tree b c ks A cap hb)
  kid := fun b c ks A cap hb i hi => by
    obtain ⟨ad, e, hg, hc⟩ := h.kid b c ks A cap hb i hi
    refine ⟨ad, e, hg, ?_⟩
    have := hk _ (World.block_lt_of_cell? _ _ hc)
    rw [← hc]
    simp only [World.cell?, this]
  closed := h.closed
  isIn := h.isIn
  num := h.num
  few := h.few
theorem UBoard.link {G : UG} {is : Nat → Option Nat} {sz : Nat → Int} {w : World} (h : UBoard G is sz w) {x y : Nat} (hx : (G x).isSome) (hy : (G y).isSome) (o : Nat) (ho : (∃ n, G x = some (.var n)) ∧ o = 1 ∨ (∃ c ks A cap, G x = some (.tree c ks A cap)) ∧ o = 2) :
    UBoard G (upd is x y) sz (w.setCell ⟨x, o, none⟩ (ifv G y)) where
  var := fun b n hb => by
    by_cases e : b = x
    · subst e
      rcases ho with ⟨_, rfl⟩ | ⟨⟨c, ks, A, cap, hc⟩, _⟩
      · rw [blk_set (h.var b n hb)]
        simp [upd, isv]
      · rw [hb] at hc; cases hc
    · rw [blk_far (h.var b n hb) (p := ⟨x, o, none⟩) e]
      simp [upd, e]
  tree := fun b c ks A cap hb => by
    by_cases e : b = x
    · subst e
      rcases ho with ⟨⟨n, hn⟩, _⟩ | ⟨_, rfl⟩
      · rw [hb] at hn; cases hn
      · rw [blk_set (h.tree b c ks A cap hb)]
        simp [upd, isv]
    · rw [blk_far (h.tree b c ks A cap hb) (p := ⟨x, o, none⟩) e]
      simp [upd, e]
  kid := fun b c ks A cap hb i hi => by
    obtain ⟨ad, e, hg, hc⟩ := h.kid b c ks A cap hb i hi
    refine ⟨ad, e, hg, ?_⟩
    have hne : (ad.add i).block ≠ x := by
      rw [add_block]
      rintro rfl
      rw [hg] at hx
      simp at hx
    have := Below.heap_setCell w ⟨x, o, none⟩ (ifv G y) (ad.add i).block hne
    rw [← hc]
    simp only [World.cell?, this]
  closed := h.closed
  isIn := fun b r hr => by
    unfold upd at hr
    split at hr
    · obtain rfl := Option.some.inj hr; exact hy
    · exact h.isIn b r hr
  num := h.num
  few := h.few
set_option maxHeartbeats 4000000 in
set_option maxRecDepth 100000 in
theorem one_calls (G : UG) (sz : Nat → Int) (w0 : World) (hG : ∀ b, (G b).isSome → w0.heap.size ≤ b) : ∀ (k : Nat) (is : Nat → Option Nat) (x y : Nat) (is' : Nat → Option Nat) (ok : Bool) (w : World), oneF k G is x y = some (is', ok) → UBoard G is sz w → Below w0.heap.size w0 w → (G x).isSome → (G y).isSome →
    Calls Tryd.prog 62 #[ifv G x, ifv G y] w fun e w' => e = .returned (.bool ok) ∧ UBoard G is' sz w' ∧ Kept w w' (fun k => (G k).isSome) ∧ Below w0.heap.size w0 w' := by
  intro k
  induction k with
  | zero => intro is x y is' ok w h; simp [oneF] at h
  | succ k ih =>
    intro is x y is' ok w h hB hb hx hy
    rw [oneF] at h
    split at h
    case h_2 => simp at h
    rename_i x' y' hx' hy'
    have cE1 := end_calls hB k x x' hx' hx
    have cE2 := end_calls hB k y y' hy' hy
    obtain ⟨hxs, hxn⟩ := root_in hB.isIn hx' hx
    obtain ⟨hys, hyn⟩ := root_in hB.isIn hy' hy
    obtain ⟨T1, hT1⟩ := ifv_form G x
    obtain ⟨T2, hT2⟩ := ifv_form G y
    rw [hT1] at cE1 ⊢
    rw [hT2] at cE2 ⊢
    have HBd := Aside0.mk hB
    have HBl := Aside0.mk hb
    have IH := Aside0.mk ih
    clear ih hB hb hT1 hT2 hx' hy'
    by_cases he : x' = y'
    · rw [if_pos he] at h
      obtain ⟨rfl, rfl⟩ := Prod.mk.inj (Option.some.inj h)
      rw [← he] at cE2
      have heq : ∀ W : World, (binOp .eql 69 (ifv G x') (ifv G x')).run Tryd.prog W = .ok (.bool true) W := by
        intro W
        cases hgx : G x' with
        | none => rw [hgx] at hxs; simp at hxs
        | some nd => cases nd with
          | var n => rw [ifv_var hgx]; exact eql_var_same _ W
          | tree c ks A cap => rw [ifv_tree hgx]; exact eql_tree_same _ W
      obtain ⟨T, hT⟩ := ifv_form G x'
      rw [hT] at cE1 cE2 heq
      have CE1 := Aside0.mk cE1
      have CE2 := Aside0.mk cE2
      clear h he cE1 cE2 hT hxn hyn
      go_enter Tryd.func62, Tryd.ntmps62
      go_wp2_with fail
      refine CE1.out.mono ?_
      rintro e w' ⟨rfl, rfl⟩
      go_wp2_with fail
      refine CE2.out.mono ?_
      rintro e w' ⟨rfl, rfl⟩
      go_wp2_with fail
      go_ret
      exact ⟨rfl, HBd.out, Kept.refl _ _, HBl.out⟩
    · rw [if_neg he] at h
      have hne := Aside0.mk he
      clear he
      cases hgx : G x' with
      | none => rw [hgx] at hxs; simp at hxs
      | some nx => cases hgy : G y' with
        | none => rw [hgy] at hys; simp at hys
        | some ny =>
          rw [hgx, hgy] at h
          cases nx with
          | var m =>
            have hbx := HBd.out.var x' m hgx
            rw [hxn] at hbx
            have hx0 := (blk_cell hbx 0).trans rfl
            have hx1 := (blk_cell hbx 1).trans rfl
            have hxf := blk_frozen hbx 1
            rw [ifv_var hgx] at cE1
            cases ny with
            | var n =>
              have hby := HBd.out.var y' n hgy
              rw [hyn] at hby
              have hy0 := (blk_cell hby 0).trans rfl
              have hy1 := (blk_cell hby 1).trans rfl
              have hyf := blk_frozen hby 1
              have heq := eql_var_other hne.out hbx hby
              have L1 := Aside0.mk (fun q => (HBd.out.kept (w1 := w.drewN q) (fun _ _ => rfl)).link (x := x') (y := y') hxs hys 1 (.inl ⟨⟨m, hgx⟩, rfl⟩))
              have L2 := Aside0.mk (fun q => (HBd.out.kept (w1 := w.drewN q) (fun _ _ => rfl)).link (x := y') (y := x') hys hxs 1 (.inl ⟨⟨n, hgy⟩, rfl⟩))
              rw [ifv_var hgy] at cE2 L1
              rw [ifv_var hgx] at L2
              have CE1 := Aside0.mk cE1
              have CE2 := Aside0.mk cE2
              have htv := ta_var
              have hnm := HBd.out.num _ _ hgx
              have hnn := HBd.out.num _ _ hgy
              clear hbx hby cE1 cE2 hxn hyn hgx hgy
              simp only at h
              by_cases hmn : m > n
              · rw [if_pos hmn] at h
                obtain ⟨rfl, rfl⟩ := Prod.mk.inj (Option.some.inj h)
                clear h
                go_enter Tryd.func62, Tryd.ntmps62
                go_wp2_with fail
                refine CE1.out.mono ?_
                rintro e w' ⟨rfl, rfl⟩
                go_wp2_with fail
                refine CE2.out.mono ?_
                rintro e w' ⟨rfl, rfl⟩
                go_wp2_with fail
                go_quiet (fail)
                go_wp2_with fail
                go_ret
                exact ⟨rfl, L1.out _, (Kept.drewN (Kept.refl _ _) _).setCell (.inl hxs) _, below_set (pw_below_drewN HBl.out _) (hG _ hxs)⟩
              · rw [if_neg hmn] at h
                obtain ⟨rfl, rfl⟩ := Prod.mk.inj (Option.some.inj h)
                clear h
                go_enter Tryd.func62, Tryd.ntmps62
                go_wp2_with fail
                refine CE1.out.mono ?_
                rintro e w' ⟨rfl, rfl⟩
                go_wp2_with fail
                refine CE2.out.mono ?_
                rintro e w' ⟨rfl, rfl⟩
                go_wp2_with fail
                go_quiet (fail)
                go_wp2_with fail
                go_ret
                exact ⟨rfl, L2.out _, (Kept.drewN (Kept.refl _ _) _).setCell (.inl hys) _, below_set (pw_below_drewN HBl.out _) (hG _ hys)⟩
            | tree d ls B cap2 =>
              have heq := eql_var_tree ⟨x', 0, none⟩ ⟨y', 0, none⟩ w
              have L1 := Aside0.mk (fun q => (HBd.out.kept (w1 := w.drewN q) (fun _ _ => rfl)).link (x := x') (y := y') hxs hys 1 (.inl ⟨⟨m, hgx⟩, rfl⟩))
              rw [ifv_tree hgy] at cE2 L1
              have CE1 := Aside0.mk cE1
              have CE2 := Aside0.mk cE2
              have htv := ta_var
              have htn := ta_var_no
              clear hbx cE1 cE2 hxn hyn hgx hgy
              simp only at h
              obtain ⟨rfl, rfl⟩ := Prod.mk.inj (Option.some.inj h)
              clear h
              go_enter Tryd.func62, Tryd.ntmps62
              go_wp2_with fail
              refine CE1.out.mono ?_
              rintro e w' ⟨rfl, rfl⟩
              go_wp2_with fail
              refine CE2.out.mono ?_
              rintro e w' ⟨rfl, rfl⟩
              go_wp2_with fail
              go_quiet (fail)
              go_wp2_with fail
              go_ret
              exact ⟨rfl, L1.out _, (Kept.drewN (Kept.refl _ _) _).setCell (.inl hxs) _, below_set (pw_below_drewN HBl.out _) (hG _ hxs)⟩
          | tree c ks A cap =>
            have hbx := HBd.out.tree x' c ks A cap hgx
            rw [hxn] at hbx
            have hx0 := (blk_cell hbx 0).trans rfl
            have hx1 := (blk_cell hbx 1).trans rfl
            have hx2 := (blk_cell hbx 2).trans rfl
            have hxf := blk_frozen hbx 2
            rw [ifv_tree hgx] at cE1
            cases ny with
            | var n =>
              have hby := HBd.out.var y' n hgy
              rw [hyn] at hby
              have hy0 := (blk_cell hby 0).trans rfl
              have hy1 := (blk_cell hby 1).trans rfl
              have hyf := blk_frozen hby 1
              have heq := eql_tree_var ⟨x', 0, none⟩ ⟨y', 0, none⟩ w
              have L2 := Aside0.mk (fun q => (HBd.out.kept (w1 := w.drewN q) (fun _ _ => rfl)).link (x := y') (y := x') hys hxs 1 (.inl ⟨⟨n, hgy⟩, rfl⟩))
              rw [ifv_var hgy] at cE2
              rw [ifv_tree hgx] at L2
              have CE1 := Aside0.mk cE1
              have CE2 := Aside0.mk cE2
              have htv := ta_var
              have htn := ta_var_no
              clear hbx hby cE1 cE2 hxn hyn hgx hgy
              simp only at h
              obtain ⟨rfl, rfl⟩ := Prod.mk.inj (Option.some.inj h)
              clear h
              go_enter Tryd.func62, Tryd.ntmps62
              go_wp2_with fail
              refine CE1.out.mono ?_
              rintro e w' ⟨rfl, rfl⟩
              go_wp2_with fail
              refine CE2.out.mono ?_
              rintro e w' ⟨rfl, rfl⟩
              go_wp2_with fail
              go_quiet (fail)
              go_wp2_with fail
              go_ret
              exact ⟨rfl, L2.out _, (Kept.drewN (Kept.refl _ _) _).setCell (.inl hys) _, below_set (pw_below_drewN HBl.out _) (hG _ hys)⟩
            | tree d ls B cap2 =>
              have hby := HBd.out.tree y' d ls B cap2 hgy
              rw [hyn] at hby
              have hy0 := (blk_cell hby 0).trans rfl
              have hy1 := (blk_cell hby 1).trans rfl
              have heq := eql_tree_other hne.out hbx hby
              have L1 := Aside0.mk (fun q => (HBd.out.kept (w1 := w.drewN q) (fun _ _ => rfl)).link (x := x') (y := y') hxs hys 2 (.inr ⟨⟨c, ks, A, cap, hgx⟩, rfl⟩))
              rw [ifv_tree hgy] at cE2 L1
              have CE1 := Aside0.mk cE1
              have CE2 := Aside0.mk cE2
              have htn := ta_var_no
              have htt := ta_tree
              simp only at h
              by_cases hcd : c = d
              · subst hcd
                rw [if_pos rfl] at h
                have HK := Aside0.mk h
                have HGX := Aside0.mk hgx
                have HGY := Aside0.mk hgy
                have hcc : (c != c) = false := by simp
                have I0 := Aside0.mk (fun q => (⟨(HBd.out.kept (w1 := w.drewN q) (fun _ _ => rfl)).link (x := x') (y := y') hxs hys 2 (.inr ⟨⟨c, ks, A, cap, hgx⟩, rfl⟩), (Kept.drewN (Kept.refl _ _) _).setCell (.inl hxs) _, below_set (pw_below_drewN HBl.out q) (hG _ hxs)⟩ : UBoard G (upd is x' y') sz ((w.drewN q).setCell ⟨x', 2, none⟩ (ifv G y')) ∧ Kept w ((w.drewN q).setCell ⟨x', 2, none⟩ (ifv G y')) (fun k => (G k).isSome) ∧ Below w0.heap.size w0 ((w.drewN q).setCell ⟨x', 2, none⟩ (ifv G y'))))
                rw [ifv_tree hgy] at I0
                clear cE1 cE2 hxn hyn h hgx hgy hbx hby L1
                go_enter Tryd.func62, Tryd.ntmps62
                go_wp2_with fail
                refine CE1.out.mono ?_
                rintro e w' ⟨rfl, rfl⟩
                go_wp2_with fail
                refine CE2.out.mono ?_
                rintro e w' ⟨rfl, rfl⟩
                go_wp2_with fail
                go_quiet (fail)
                go_wp2_with fail
                go_quiet (fail)
                go_wp2_with fail
                go_quiet (fail)
                go_wp2_with fail
                go_loopg [95] (ks.length + 1) (fun kq v95 wx => ∃ (i : Nat) (is2 : Nat → Option Nat), v95 = .int .i64 i ∧ kq + i = ks.length + 1 ∧ i ≤ ks.length ∧ kidsF (oneF k G) is2 (ks.drop i) (ls.drop i) = some (is', ok) ∧ UBoard G is2 sz wx ∧ Kept w wx (fun k => (G k).isSome) ∧ Below w0.heap.size w0 wx)
                case atStart => exact ⟨0, upd is x' y', rfl, by omega, by omega, HK.out, (I0.out _).1, (I0.out _).2.1, (I0.out _).2.2⟩
                case round =>
                  obtain ⟨i, is2, rfl, hkq, hile, hF, hBr, hKr, hbr⟩ := hrel
                  clear I0 hx0 hx1 hx2 hxf hy0 hy1 heq hcc htn htt
                  have hbx := hBr.tree x' c ks A cap HGX.out
                  have hby := hBr.tree y' c ls B cap2 HGY.out
                  have hx1 := (blk_cell hbx 1).trans rfl
                  have hy1 := (blk_cell hby 1).trans rfl
                  have HKr := Aside0.mk hKr
                  have hm1 := hBr.few x' c ks A cap HGX.out
                  by_cases hi : i < ks.length
                  · obtain ⟨k1, rfl⟩ : ∃ k1, gk = k1 + 1 := ⟨gk - 1, by omega⟩
                    rw [List.drop_eq_getElem_cons hi] at hF
                    have hj : i < ls.length := by
                      apply Classical.byContradiction
                      intro hn
                      rw [List.drop_eq_nil_of_le (by omega : ls.length ≤ i)] at hF
                      simp [kidsF] at hF
                    rw [List.drop_eq_getElem_cons hj, kidsF] at hF
                    obtain ⟨ad1, e1, _, hc1⟩ := hBr.kid x' c ks A cap HGX.out i hi
                    obtain ⟨ad2, e2, _, hc2⟩ := hBr.kid y' c ls B cap2 HGY.out i hj
                    subst e1
                    subst e2
                    have hk1 := hBr.closed x' c ks _ cap HGX.out ks[i] (List.getElem_mem hi)
                    have hk2 := hBr.closed y' c ls _ cap2 HGY.out ls[i] (List.getElem_mem hj)
                    have pa : ((0 : Int) ≤ (i : Int)) = True := eq_true (by omega)
                    have qa : ((i : Int) < (ks.length : Int)) = True := eq_true (by omega)
                    have qb : ((i : Int) < (ls.length : Int)) = True := eq_true (by omega)
                    obtain ⟨U1, hU1⟩ := ifv_form G ks[i]
                    obtain ⟨U2, hU2⟩ := ifv_form G ls[i]
                    cases hr3 : oneF k G is2 ks[i] ls[i] with
                    | none => rw [hr3] at hF; simp at hF
                    | some r3 =>
                      obtain ⟨is3, ok3⟩ := r3
                      have cO := fun q => IH.out is2 ks[i] ls[i] is3 ok3 (wr.drewN q) hr3 (hBr.kept (fun _ _ => rfl)) (pw_below_drewN hbr q) hk1 hk2
                      rw [hr3] at hF
                      rw [hU1] at hc1
                      rw [hU2] at hc2
                      simp only [hU1, hU2] at cO
                      have CO := Aside0.mk cO
                      have HF := Aside0.mk hF
                      clear cO hF hBr hbr hKr hr3 hU1 hU2 hbx hby
                      go_wp2_with fail
                      go_still_tail 14, (by kernel_rfl)
                      change wpList _ _ _ _ _ (wr.drewN 1)
                      have CO1 := Aside0.mk (CO.out 1)
                      have HK1 := Aside0.mk (HKr.out.drewN 1)
                      clear CO HKr hx1 hy1 hc1 hc2 HBd HBl
                      generalize wr.drewN 1 = w2 at *
                      go_wp2_with fail
                      refine CO1.out.mono ?_
                      rintro e w3 ⟨rfl, hB3, hK3, hb3⟩
                      have HB3 := Aside0.mk hB3
                      have HK3 := Aside0.mk (HK1.out.then_ hK3 (fun _ h => .inl h))
                      have Hb3 := Aside0.mk hb3
                      clear hB3 hK3 hb3 CO1 HK1
                      cases ok3 with
                      | false =>
                        have hF := HF.out
                        simp only [Option.some.injEq, Prod.mk.injEq] at hF
                        obtain ⟨rfl, rfl⟩ := hF
                        go_wp2_with fail
                        go_ret
                        exact ⟨rfl, HB3.out, HK3.out, Hb3.out⟩
                      | true =>
                        go_wp2_with fail
                        go_roundg k1
                        case measure => omega
                        case rel => exact ⟨i + 1, is3, by go_num, by omega, by omega, HF.out, HB3.out, HK3.out, Hb3.out⟩
                  · obtain rfl : i = ks.length := by omega
                    rw [List.drop_length, kidsF] at hF
                    obtain ⟨rfl, rfl⟩ := Prod.mk.inj (Option.some.inj hF)
                    have HBr := Aside0.mk hBr
                    have Hbr := Aside0.mk hbr
                    clear hBr hbr hF hbx hby
                    go_wp2_with fail
                    go_ret
                    exact ⟨rfl, HBr.out, HKr.out, Hbr.out⟩
              · rw [if_neg hcd] at h
                obtain ⟨rfl, rfl⟩ := Prod.mk.inj (Option.some.inj h)
                have hcb : (c != d) = true := bne_iff_ne.mpr hcd
                clear hbx hby cE1 cE2 hxn hyn hgx hgy h hcd
                go_enter Tryd.func62, Tryd.ntmps62
                go_wp2_with fail
                refine CE1.out.mono ?_
                rintro e w' ⟨rfl, rfl⟩
                go_wp2_with fail
                refine CE2.out.mono ?_
                rintro e w' ⟨rfl, rfl⟩
                go_wp2_with fail
                go_quiet (fail)
                go_wp2_with fail
                go_quiet (fail)
                go_wp2_with fail
                go_quiet (fail)
                go_wp2_with fail
                go_ret
                exact ⟨rfl, HBd.out.kept (fun _ _ => rfl), Kept.drewN (Kept.drewN (Kept.drewN (Kept.refl _ _) _) _) _, pw_below_drewN (pw_below_drewN (pw_below_drewN HBl.out _) _) _⟩
end
section
def updz (sz : Nat → Int) (x : Nat) (v : Int) : Nat → Int := fun k => if k = x then v else sz k
def measKids (f : (Nat → Int) → Nat → Option ((Nat → Int) × Int × Bool)) : (Nat → Int) → List Nat → Int → Nat → Option ((Nat → Int) × Int × Bool)
  | sz, [], size, r => some (updz sz r size, size, true)
  | sz, a :: s, size, r => match f sz a with
    | none => none
    | some (sz', m, true) => measKids f sz' s (min (size + m) 513) r
    | some (sz', _, false) => some (sz', 0, false)
def measF : Nat → UG → (Nat → Option Nat) → (Nat → Int) → Nat → Option ((Nat → Int) × Int × Bool)
  | 0, _, _, _, _ => none
  | k + 1, G, is, sz, b => match rootF k is b with
    | none => none
    | some r => match G r with
      | some (.var _) => some (sz, 1, true)
      | some (.tree _ ks _ _) => if sz r ≠ 0 then some (sz, sz r, decide (sz r > 0)) else measKids (measF k G is) (updz sz r (-1)) ks 1 r
      | none => none
def szOk (sz : Nat → Int) : Prop := ∀ b, -1 ≤ sz b ∧ sz b ≤ 513
theorem szOk.upd {sz : Nat → Int} (h : szOk sz) {r : Nat} {v : Int} (h0 : -1 ≤ v) (h1 : v ≤ 513) : szOk (updz sz r v) := by
  intro b
  unfold updz
  split
  · exact ⟨h0, h1⟩
  · exact h b
theorem measKids_ok {f : (Nat → Int) → Nat → Option ((Nat → Int) × Int × Bool)} (hf : ∀ sz a sz' m ok, szOk sz → f sz a = some (sz', m, ok) → szOk sz' ∧ -1 ≤ m ∧ m ≤ 513 ∧ (ok = true → 1 ≤ m)) :
    ∀ (l : List Nat) (sz : Nat → Int) (size : Int) (r : Nat) (sz' : Nat → Int) (m : Int) (ok : Bool), szOk sz → 1 ≤ size → size ≤ 513 → measKids f sz l size r = some (sz', m, ok) → szOk sz' ∧ -1 ≤ m ∧ m ≤ 513 ∧ (ok = true → 1 ≤ m) := by
  intro l
  induction l with
  | nil =>
    intro sz size r sz' m ok hz h1 h2 h
    simp only [measKids, Option.some.injEq, Prod.mk.injEq] at h
    obtain ⟨rfl, rfl, rfl⟩ := h
    exact ⟨hz.upd (by omega) h2, by omega, h2, fun _ => h1⟩
  | cons a l ih =>
    intro sz size r sz' m ok hz h1 h2 h
    rw [measKids] at h
    split at h
    · simp at h
    · rename_i sz1 m1 he
      obtain ⟨h3, h4, h5, h6⟩ := hf sz a sz1 m1 true hz he
      have h7 := h6 rfl
      exact ih sz1 _ r sz' m ok h3 (by omega) (by omega) h
    · rename_i sz1 m1 he
      obtain ⟨h3, _⟩ := hf sz a sz1 m1 false hz he
      simp only [Option.some.injEq, Prod.mk.injEq] at h
      obtain ⟨rfl, rfl, rfl⟩ := h
      exact ⟨h3, by omega, by omega, fun h => by cases h⟩
theorem measF_ok (G : UG) (is : Nat → Option Nat) : ∀ (k : Nat) (sz : Nat → Int) (b : Nat) (sz' : Nat → Int) (m : Int) (ok : Bool), szOk sz → measF k G is sz b = some (sz', m, ok) → szOk sz' ∧ -1 ≤ m ∧ m ≤ 513 ∧ (ok = true → 1 ≤ m) := by
  intro k
  induction k with
  | zero => intro sz b sz' m ok _ h; simp [measF] at h
  | succ k ih =>
    intro sz b sz' m ok hz h
    rw [measF] at h
    split at h
    · simp at h
    · rename_i r _
      split at h
      · simp only [Option.some.injEq, Prod.mk.injEq] at h
        obtain ⟨rfl, rfl, rfl⟩ := h
        exact ⟨hz, by omega, by omega, fun _ => by omega⟩
      · split at h
        · simp only [Option.some.injEq, Prod.mk.injEq] at h
          obtain ⟨rfl, rfl, rfl⟩ := h
          have := hz r
          exact ⟨hz, by omega, by omega, fun h => by have := of_decide_eq_true h; omega⟩
        · exact measKids_ok (fun sz a sz' m ok h1 h2 => ih sz a sz' m ok h1 h2) _ _ 1 r sz' m ok (hz.upd (by omega) (by omega)) (by omega) (by omega) h
      · simp at h
theorem UBoard.mark {G : UG} {is : Nat → Option Nat} {sz : Nat → Int} {w : World} (h : UBoard G is sz w) {r : Nat} (v : Int) {c : Int} {ks : List Nat} {A : Option Addr} {cap : Nat} (hr : G r = some (.tree c ks A cap)) :
    UBoard G is (updz sz r v) (w.setCell ⟨r, 3, none⟩ (.int .i64 v)) where
  var := fun b n hb => by
    have e : b ≠ r := by rintro rfl; rw [hb] at hr; cases hr
    rw [blk_far (h.var b n hb) (p := ⟨r, 3, none⟩) e]
  tree := fun b c ks A cap hb => by
    by_cases e : b = r
    · subst e
      rw [blk_set (h.tree b c ks A cap hb)]
      simp [updz]
    · rw [blk_far (h.tree b c ks A cap hb) (p := ⟨r, 3, none⟩) e]
      simp [updz, e]
  kid := fun b c ks A cap hb i hi => by
    obtain ⟨ad, e, hg, hc⟩ := h.kid b c ks A cap hb i hi
    refine ⟨ad, e, hg, ?_⟩
    have hne : (ad.add i).block ≠ r := by
      rw [add_block]
      rintro rfl
      rw [hg] at hr
      cases hr
    have := Below.heap_setCell w ⟨r, 3, none⟩ (.int .i64 v) (ad.add i).block hne
    rw [← hc]
    simp only [World.cell?, this]
  closed := h.closed
  isIn := h.isIn
  num := h.num
  few := h.few
set_option maxHeartbeats 4000000 in
set_option maxRecDepth 100000 in
theorem measure_calls (G : UG) (is : Nat → Option Nat) (w0 : World) (hG : ∀ b, (G b).isSome → w0.heap.size ≤ b) : ∀ (k : Nat) (sz : Nat → Int) (b : Nat) (sz' : Nat → Int) (m : Int) (ok : Bool) (w : World), measF k G is sz b = some (sz', m, ok) → szOk sz → UBoard G is sz w → Below w0.heap.size w0 w → (G b).isSome →
    Calls Tryd.prog 41 #[ifv G b] w fun e w' => e = .returned (.tuple #[.int .i64 m, .bool ok]) ∧ UBoard G is sz' w' ∧ Kept w w' (fun k => (G k).isSome) ∧ Below w0.heap.size w0 w' := by
  intro k
  induction k with
  | zero => intro sz b sz' m ok w h; simp [measF] at h
  | succ k ih =>
    intro sz b sz' m ok w h hz hB hb hbi
    rw [measF] at h
    cases hr : rootF k is b with
    | none => rw [hr] at h; simp at h
    | some r =>
      rw [hr] at h
      simp only at h
      have cE := end_calls hB k b r hr hbi
      obtain ⟨hrs, hrn⟩ := root_in hB.isIn hr hbi
      obtain ⟨T1, hT1⟩ := ifv_form G b
      rw [hT1] at cE ⊢
      have HBd := Aside0.mk hB
      have HBl := Aside0.mk hb
      have IH := Aside0.mk ih
      have HZ := Aside0.mk hz
      clear ih hB hb hT1 hr hz
      cases hg : G r with
      | none => rw [hg] at hrs; simp at hrs
      | some nd => cases nd with
        | var n =>
          rw [hg] at h
          simp only [Option.some.injEq, Prod.mk.injEq] at h
          obtain ⟨rfl, rfl, rfl⟩ := h
          rw [ifv_var hg] at cE
          have CE := Aside0.mk cE
          have htv := ta_var
          clear cE hrn
          go_enter Tryd.func41, Tryd.ntmps41
          go_wp2_with fail
          refine CE.out.mono ?_
          rintro e w' ⟨rfl, rfl⟩
          go_wp2_with fail
          go_ret2
          exact ⟨rfl, HBd.out, Kept.refl _ _, HBl.out⟩
        | tree c ks A cap =>
          rw [hg] at h
          simp only at h
          rw [ifv_tree hg] at cE
          have CE := Aside0.mk cE
          have htn := ta_var_no
          have htt := ta_tree
          have hbr := HBd.out.tree r c ks A cap hg
          have hr1 := (blk_cell hbr 1).trans rfl
          have hr3 := (blk_cell hbr 3).trans rfl
          have hrf := blk_frozen hbr 3
          have hz := HZ.out r
          by_cases hsz : sz r ≠ 0
          · rw [if_pos hsz] at h
            simp only [Option.some.injEq, Prod.mk.injEq] at h
            obtain ⟨rfl, rfl, rfl⟩ := h
            have hne : (sz r != 0) = true := bne_iff_ne.mpr hsz
            clear cE hrn hbr hsz
            go_enter Tryd.func41, Tryd.ntmps41
            go_wp2_with fail
            refine CE.out.mono ?_
            rintro e w' ⟨rfl, rfl⟩
            go_wp2_with fail
            go_quiet (fail)
            go_wp2_with fail
            go_ret2
            exact ⟨rfl, HBd.out.kept (fun _ _ => rfl), Kept.drewN (Kept.refl _ _) _, pw_below_drewN HBl.out _⟩
          · rw [if_neg hsz] at h
            have hs0 : sz r = 0 := Classical.byContradiction hsz
            rw [hs0] at hr3
            have HK := Aside0.mk h
            have HGR := Aside0.mk hg
            have I0 := Aside0.mk (⟨HBd.out.mark (-1) hg, (Kept.refl w _).setCell (S := fun k => (G k).isSome) (p := ⟨r, 3, none⟩) (.inl hrs) _, below_set HBl.out (hG _ hrs)⟩ : UBoard G is (updz sz r (-1)) (w.setCell ⟨r, 3, none⟩ (.int .i64 (-1))) ∧ Kept w (w.setCell ⟨r, 3, none⟩ (.int .i64 (-1))) (fun k => (G k).isSome) ∧ Below w0.heap.size w0 (w.setCell ⟨r, 3, none⟩ (.int .i64 (-1))))
            have hm1 := HBd.out.few r c ks A cap hg
            have HRS := Aside0.mk hrs
            clear cE hrn hbr hsz hs0 h hz hrs hg
            go_enter Tryd.func41, Tryd.ntmps41
            go_wp2_with fail
            refine CE.out.mono ?_
            rintro e w' ⟨rfl, rfl⟩
            go_wp2_with fail
            go_loopg [7, 44] (ks.length + 1) (fun kq v7 v44 wx => ∃ (i : Nat) (sz2 : Nat → Int) (size : Int), v7 = .int .i64 size ∧ v44 = .int .i64 i ∧ kq + i = ks.length + 1 ∧ i ≤ ks.length ∧ measKids (measF k G is) sz2 (ks.drop i) size r = some (sz', m, ok) ∧ 1 ≤ size ∧ size ≤ 513 ∧ szOk sz2 ∧ UBoard G is sz2 wx ∧ Kept w wx (fun k => (G k).isSome) ∧ Below w0.heap.size w0 wx)
            case atStart => exact ⟨0, updz sz r (-1), 1, rfl, rfl, by omega, by omega, HK.out, by omega, by omega, HZ.out.upd (by omega) (by omega), I0.out.1, I0.out.2.1, I0.out.2.2⟩
            case round =>
              obtain ⟨i, sz2, size, rfl, rfl, hkq, hile, hF, hs1, hs2, hz2, hBr, hKr, hbr⟩ := hrel
              clear I0 hr1 hr3 hrf htn htt CE
              have hbk := hBr.tree r c ks A cap HGR.out
              have HBR := Aside0.mk hBr
              have HKR := Aside0.mk hKr
              have HbR := Aside0.mk hbr
              have HZ2 := Aside0.mk hz2
              by_cases hi : i < ks.length
              · obtain ⟨k1, rfl⟩ : ∃ k1, gk = k1 + 1 := ⟨gk - 1, by omega⟩
                rw [List.drop_eq_getElem_cons hi, measKids] at hF
                obtain ⟨ad1, e1, _, hc1⟩ := hBr.kid r c ks A cap HGR.out i hi
                subst e1
                have hk1 := hBr.closed r c ks _ cap HGR.out ks[i] (List.getElem_mem hi)
                have pa : ((0 : Int) ≤ (i : Int)) = True := eq_true (by omega)
                have qa : ((i : Int) < (ks.length : Int)) = True := eq_true (by omega)
                obtain ⟨U1, hU1⟩ := ifv_form G ks[i]
                cases hr3 : measF k G is sz2 ks[i] with
                | none => rw [hr3] at hF; simp at hF
                | some r3 =>
                  obtain ⟨sz3, m3, ok3⟩ := r3
                  have cO := IH.out sz2 ks[i] sz3 m3 ok3 wr hr3 hz2 hBr hbr hk1
                  obtain ⟨hz3, hm3, hm4, hm5⟩ := measF_ok G is k sz2 ks[i] sz3 m3 ok3 hz2 hr3
                  rw [hr3] at hF
                  rw [hU1] at hc1 cO
                  have CO := Aside0.mk cO
                  have HF := Aside0.mk hF
                  have HZ3 := Aside0.mk hz3
                  clear cO hF hBr hbr hKr hr3 hU1 hbk hz2 hz3
                  cases ok3 with
                  | false =>
                    go_wp2_with fail
                    refine CO.out.mono ?_
                    rintro e w3 ⟨rfl, hB3, hK3, hb3⟩
                    have HB3 := Aside0.mk hB3
                    have HK3 := Aside0.mk (HKR.out.then_ hK3 (fun _ h => .inl h))
                    have Hb3 := Aside0.mk hb3
                    clear hB3 hK3 hb3 CO
                    have hF := HF.out
                    simp only [Option.some.injEq, Prod.mk.injEq] at hF
                    obtain ⟨rfl, rfl, rfl⟩ := hF
                    go_wp2_with fail
                    go_ret2
                    exact ⟨rfl, HB3.out, HK3.out, Hb3.out⟩
                  | true =>
                    have hm6 := hm5 rfl
                    clear hm5
                    go_wp2_with fail
                    refine CO.out.mono ?_
                    rintro e w3 ⟨rfl, hB3, hK3, hb3⟩
                    have HB3 := Aside0.mk hB3
                    have HK3 := Aside0.mk (HKR.out.then_ hK3 (fun _ h => .inl h))
                    have Hb3 := Aside0.mk hb3
                    clear hB3 hK3 hb3 CO
                    go_wp2_with fail
                    all_goals
                      go_roundg k1
                      case measure => omega
                      case rel => exact ⟨i + 1, sz3, min (size + m3) 513, by first | rfl | (congr 1; omega), by go_num, by omega, by omega, HF.out, by omega, by omega, HZ3.out, HB3.out, HK3.out, Hb3.out⟩
              · obtain rfl : i = ks.length := by omega
                rw [List.drop_length, measKids] at hF
                simp only [Option.some.injEq, Prod.mk.injEq] at hF
                obtain ⟨rfl, rfl, rfl⟩ := hF
                have hr3 := (blk_cell hbk 3).trans rfl
                have hrf := blk_frozen hbk 3
                clear hBr hbr hbk hKr hz2
                go_wp2_with fail
                go_ret2
                exact ⟨rfl, HBR.out.mark size HGR.out, HKR.out.setCell (.inl HRS.out) _, below_set HbR.out (hG _ HRS.out)⟩
def rowKids (f : Nat → Option (List Int)) : List Nat → Option (List Int)
  | [] => some []
  | a :: s => match f a with
    | none => none
    | some u => match rowKids f s with
      | none => none
      | some v => some (u ++ v)
def rowF : Nat → UG → (Nat → Option Nat) → Nat → Option (List Int)
  | 0, _, _, _ => none
  | k + 1, G, is, b => match rootF k is b with
    | none => none
    | some r => match G r with
      | some (.var n) => some [-1 - n]
      | some (.tree c ks _ _) => match rowKids (rowF k G is) ks with
        | none => none
        | some u => some (c :: u)
      | none => none
theorem R_any {α : Type} {d : Kd α} {e : Nat} {w : World} {base : Nat} {ok : Nat → Prop} {v : Value} {xs : List α} (h : d.R e w base ok v xs) : ∃ A n c, v = .slice A n c := by
  obtain ⟨A, c, e⟩ := Kd.R_slice h
  exact ⟨A, _, c, e⟩
set_option maxHeartbeats 1000000 in
set_option maxRecDepth 100000 in
theorem row_calls (G : UG) (is : Nat → Option Nat) (sz : Nat → Int) (wT : World) (hT : UBoard G is sz wT) : ∀ (k b : Nat) (u : List Int) (w : World) (v : Value) (xs : List Int), rowF k G is b = some u → xs.length + u.length ≤ 1048576 → Below wT.heap.size wT w → (Kd.int .i64).R 3 w wT.heap.size (fun _ => True) v xs → (G b).isSome →
    Calls Tryd.prog 42 #[ifv G b, v] w fun e w' => ∃ v', e = .returned v' ∧ (Kd.int .i64).R 3 w' wT.heap.size (fun _ => True) v' (xs ++ u) ∧ Below wT.heap.size wT w' := by
  have HT := Aside0.mk hT
  clear hT
  intro k
  induction k with
  | zero => intro b u w v xs h; simp [rowF] at h
  | succ k ih =>
    intro b u w v xs h hl hb hR hbi
    rw [rowF] at h
    cases hr : rootF k is b with
    | none => rw [hr] at h; simp at h
    | some r =>
      rw [hr] at h
      simp only at h
      have hB : UBoard G is sz w := HT.out.kept (fun b hlt => hb.block b hlt)
      have cE := end_calls hB k b r hr hbi
      obtain ⟨hrs, hrn⟩ := root_in hB.isIn hr hbi
      obtain ⟨T1, hT1⟩ := ifv_form G b
      rw [hT1] at cE ⊢
      have HBd := Aside0.mk hB
      have HBl := Aside0.mk hb
      have IH := Aside0.mk ih
      obtain ⟨A, cp, hv⟩ := Kd.R_slice hR
      subst hv
      have HR := Aside0.mk hR
      clear ih hB hb hT1 hr hR
      cases hg : G r with
      | none => rw [hg] at hrs; simp at hrs
      | some nd => cases nd with
        | var n =>
          rw [hg] at h
          obtain rfl := Option.some.inj h
          rw [ifv_var hg] at cE
          have CE := Aside0.mk cE
          have htv := ta_var
          have hbr := HBd.out.var r n hg
          have hr0 := (blk_cell hbr 0).trans rfl
          have hn := HBd.out.num r n hg
          have hw : IntKind.i64.wrap (-1 - n) = -1 - n := by rw [IntKind.wrap_i64]; omega
          simp only [List.length_cons, List.length_nil] at hl
          clear cE hrn hbr h hrs hg
          go_enter Tryd.func42, Tryd.ntmps42
          go_wp2_with fail
          refine CE.out.mono ?_
          rintro e w' ⟨rfl, rfl⟩
          go_wp2_with (first | (at_builtin; refine Kd.R_append (Kd.int .i64) (w0 := wT) wT.heap.size rfl _ _ 23 3 (.int .i64 0) 8 rfl Tryd.underlying23 info3 rfl (by decide) (by omega) (.slice A xs.length cp) xs (-1 - n) [.int .i64 (-1 - n)] (fun _ => True) (fun _ => False) rfl rfl ?cP (fun _ h => h.elim) (fun k hk => trivial) ?cO ?cB ?cS ?cL ?_))
          case cP => rfl
          case cO => exact HR.out
          case cB => exact HBl.out
          case cS => exact HBl.out.size
          case cL => omega
          intro v5 w5 hR5 hb5 _ _
          obtain ⟨A5, c5, hv5⟩ := Kd.R_slice hR5
          subst hv5
          have HR5 := Aside0.mk hR5
          have HB5 := Aside0.mk hb5
          clear hR5 hb5
          go_wp2_with fail
          go_ret
          exact ⟨_, rfl, HR5.out, HB5.out⟩
        | tree c ks B cap =>
          rw [hg] at h
          simp only at h
          cases hk : rowKids (rowF k G is) ks with
          | none => rw [hk] at h; simp at h
          | some us =>
            rw [hk] at h
            obtain rfl := Option.some.inj h
            rw [ifv_tree hg] at cE
            have CE := Aside0.mk cE
            have htn := ta_var_no
            have htt := ta_tree
            have hbr := HBd.out.tree r c ks B cap hg
            have hr0 := (blk_cell hbr 0).trans rfl
            have hfew := HBd.out.few r c ks B cap hg
            simp only [List.length_cons] at hl
            have HK := Aside0.mk hk
            have HBR := Aside0.mk hbr
            have HGR := Aside0.mk hg
            clear cE hrn hbr h hrs hg hk
            go_enter Tryd.func42, Tryd.ntmps42
            go_wp2_with fail
            refine CE.out.mono ?_
            rintro e w' ⟨rfl, rfl⟩
            go_wp2_with (first | (at_builtin; refine Kd.R_append (Kd.int .i64) (w0 := wT) wT.heap.size rfl _ _ 23 3 (.int .i64 0) 8 rfl Tryd.underlying23 info3 rfl (by decide) (by omega) (.slice A xs.length cp) xs c [.int .i64 c] (fun _ => True) (fun _ => False) rfl rfl ?cP (fun _ h => h.elim) (fun k hk => trivial) ?cO ?cB ?cS ?cL ?_))
            case cP => rfl
            case cO => exact HR.out
            case cB => exact HBl.out
            case cS => exact HBl.out.size
            case cL => omega
            intro v5 w5 hR5 hb5 _ _
            obtain ⟨A5, n5, c5, hv5⟩ := R_any hR5
            subst hv5
            have hbr5 := (hb5.block r (blk_lt (HT.out.tree r c ks B cap HGR.out))).trans (HT.out.tree r c ks B cap HGR.out)
            have hr15 := (blk_cell hbr5 1).trans rfl
            have HR5 := Aside0.mk hR5
            have HB5 := Aside0.mk hb5
            clear hR5 hb5 hr0 hbr5
            go_wp2_with fail
            go_loopg [1, 40] (ks.length + 1) (fun kq v1 v40 wx => ∃ (i : Nat) (ys rs : List Int), v40 = .int .i64 i ∧ kq + i = ks.length + 1 ∧ i ≤ ks.length ∧ rowKids (rowF k G is) (ks.drop i) = some rs ∧ us.length = ys.length + rs.length ∧ us = ys ++ rs ∧ (∃ A n c, v1 = .slice A n c) ∧ (Kd.int .i64).R 3 wx wT.heap.size (fun _ => True) v1 (xs ++ [c] ++ ys) ∧ Below wT.heap.size wT wx)
            case atStart => exact ⟨0, [], us, rfl, by omega, by omega, HK.out, by simp, rfl, R_any HR5.out, by rw [List.append_nil]; exact HR5.out, HB5.out⟩
            case round =>
              obtain ⟨i, ys, rs, rfl, hkq, hile, hF, hlu, hus, ⟨A6, n6, c6, rfl⟩, hRr, hbr⟩ := hrel
              have HRr := Aside0.mk hRr
              have Hbr := Aside0.mk hbr
              have HUS := Aside0.mk hus
              clear hr15 CE htn htt HR5 HB5 hRr hus
              by_cases hi : i < ks.length
              · obtain ⟨k1, rfl⟩ : ∃ k1, gk = k1 + 1 := ⟨gk - 1, by omega⟩
                rw [List.drop_eq_getElem_cons hi, rowKids] at hF
                obtain ⟨ad1, e1, _, hc1⟩ := HT.out.kid r c ks B cap HGR.out i hi
                subst e1
                have hc1' := (hbr.cell (World.block_lt_of_cell? _ _ hc1)).trans hc1
                have hk1 := HT.out.closed r c ks _ cap HGR.out ks[i] (List.getElem_mem hi)
                have pa : ((0 : Int) ≤ (i : Int)) = True := eq_true (by omega)
                have qa : ((i : Int) < (ks.length : Int)) = True := eq_true (by omega)
                obtain ⟨U1, hU1⟩ := ifv_form G ks[i]
                cases hr3 : rowF k G is ks[i] with
                | none => rw [hr3] at hF; simp at hF
                | some u3 =>
                  rw [hr3] at hF
                  simp only at hF
                  cases hr4 : rowKids (rowF k G is) (ks.drop (i + 1)) with
                  | none => rw [hr4] at hF; simp at hF
                  | some u4 =>
                    rw [hr4] at hF
                    obtain rfl := Option.some.inj hF
                    rw [List.length_append] at hlu
                    have cO := IH.out ks[i] u3 wr _ _ hr3 (by simp only [List.length_append, List.length_cons, List.length_nil]; omega) Hbr.out HRr.out hk1
                    rw [hU1] at hc1' cO
                    have CO := Aside0.mk cO
                    have HR4 := Aside0.mk hr4
                    clear cO hF hbr hr3 hU1 hr4 hc1
                    go_wp2_with fail
                    refine CO.out.mono ?_
                    rintro e w3 ⟨v3, rfl, hR3, hb3⟩
                    obtain ⟨A3, n3, c3, rfl⟩ := R_any hR3
                    have HR3 := Aside0.mk hR3
                    have Hb3 := Aside0.mk hb3
                    clear hR3 hb3 CO
                    go_wp2_with fail
                    go_roundg k1
                    case measure => omega
                    case rel => exact ⟨i + 1, ys ++ u3, u4, by go_num, by omega, by omega, HR4.out, by rw [List.length_append]; omega, by rw [HUS.out, List.append_assoc], R_any HR3.out, by rw [← List.append_assoc]; exact HR3.out, Hb3.out⟩
              · obtain rfl : i = ks.length := by omega
                rw [List.drop_length, rowKids] at hF
                obtain rfl := Option.some.inj hF
                have hus := HUS.out
                rw [List.append_nil] at hus
                subst hus
                clear hbr
                go_wp2_with fail
                go_ret
                exact ⟨_, rfl, by have := HRr.out; rw [List.append_assoc] at this; exact this, Hbr.out⟩
end
end Go.Proofs.YtjckddaaeiffpaaDoor.Z
