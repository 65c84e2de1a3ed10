/- (lodestone/unify.board).lay: a row of codes laid out as nodes. (lodestone/unify.board).lay: its walk. -/
import Derived.Test.YtjckddaaeiffpaaDoorZ0
import Derived.Test.YtjckddaaeiffpaaDoorExtClone
import Derived.Test.YtjckddaaeiffpaaDoorExtMap
import Derived.Test.YtjckddaaeiffpaaDoorExtMatch
import Derived.Test.YtjckddaaeiffpaaDoorExtName
import Derived.Test.YtjckddaaeiffpaaDoorExtTree
import Derived.Test.YtjckddaaeiffpaaDoorLits
import Derived.Test.YtjckddaaeiffpaaDoorPlainSig
import Derived.Test.YtjckddaaeiffpaaDoorPureTerm
import Derived.Test.YtjckddaaeiffpaaDoorUnState
import Derived.Outline
import Derived.Deep.RegionWith
namespace Go.Proofs.YtjckddaaeiffpaaDoor.Z
open Go.RowKit Go.Proofs.YtjckddaaeiffpaaDoorW.PrintWords Go.Proofs.YtjckddaaeiffpaaDoorW.PrintLast Go.Proofs.YtjckddaaeiffpaaDoorW.PrintMore
attribute [local go_sem] max2_int min2_int max_two min_two max_three min_three max_four min_four   -- for this text's walks alone
set_option linter.unusedVariables false
set_option linter.unusedSimpArgs false

section
/-- Each node's term as a row of codes. -/
structure Flat (sig : List S85) (G : UG) (fl : Nat → List Int) : Prop where
  var : ∀ b n, G b = some (.var n) → fl b = [-1 - n]
  tree : ∀ b c ks A cap, G b = some (.tree c ks A cap) → fl b = c :: ks.flatMap fl ∧ ks.length = ari sig c ∧ 0 ≤ c ∧ c < sig.length
theorem flatMap_congr {f g : Nat → List Int} : ∀ {l : List Nat}, (∀ x, x ∈ l → f x = g x) → l.flatMap f = l.flatMap g := by
  intro l
  induction l with
  | nil => intro _; rfl
  | cons a r ih =>
    intro h
    rw [List.flatMap_cons, List.flatMap_cons, h a List.mem_cons_self, ih (fun x hx => h x (List.mem_cons_of_mem _ hx))]
def vptr (b : Nat) : Value := .pointer (some ⟨b, 0, none⟩)
structure LayI (l0 : List S85) (A0 : Option Addr) (c0 g B : Nat) (w0 : World) (G : UG) (KR : Nat → Prop) (fl : Nat → List Int) (vs : List Nat) (vv : Value) (wx : World) : Prop where
  brd : UBoard G (fun _ => none) (fun _ => 0) wx
  kr : ∀ b c ks A cap ad, G b = some (.tree c ks A cap) → ks ≠ [] → A = some ad → KR ad.block
  krt : ∀ k, KR k → ∃ cs, wx.heap[k]? = some (.cells cs 69 (0, 0))
  bg : wx.heap[g]? = some (.cells #[.slice A0 l0.length c0, vv, .map (some B)] 66 (0, 0))
  own : wx.ownsRow w0.heap.size 67 1 vv vs.length (vs.map vptr)
  map : ∃ m, MapI wx B vs.length m ∧ (∀ i (h : i < vs.length), ∃ n, G vs[i] = some (.var n) ∧ m (-1 - n) = some (.int .i64 (i : Nat))) ∧ (∀ c v, m c = some v → ∃ i, ∃ h : i < vs.length, v = .int .i64 (i : Nat) ∧ G vs[i] = some (.var (-1 - c)))
  vall : ∀ b n, G b = some (.var n) → b ∈ vs
  bel : Below w0.heap.size w0 wx
  base : ∀ b, (G b).isSome → w0.heap.size ≤ b
  flat : Flat l0 G fl
  hg : w0.heap.size ≤ g
  hB : w0.heap.size ≤ B
theorem UBoard.at_ {G : UG} {is : Nat → Option Nat} {sz : Nat → Int} {w : World} (h : UBoard G is sz w) {b : Nat} (hb : (G b).isSome) : ∃ cs T, w.heap[b]? = some (.cells cs T (0, 0)) ∧ (T = 71 ∨ T = 107) := by
  cases hG : G b with
  | none => rw [hG] at hb; simp at hb
  | some nd => cases nd with
    | var n => exact ⟨_, _, h.var b n hG, .inl rfl⟩
    | tree c ks A cap => exact ⟨_, _, h.tree b c ks A cap hG, .inr rfl⟩
theorem cells_ne {cs cs' : Array Value} {T T' : TypeId} (h : T ≠ T') : Obj.cells cs T (0, 0) ≠ .cells cs' T' (0, 0) := by
  intro e
  injection e with _ e2
  exact h e2
theorem UBoard.none_of {G : UG} {is : Nat → Option Nat} {sz : Nat → Int} {w : World} (h : UBoard G is sz w) {b : Nat} {o : Obj} (hb : w.heap[b]? = some o) (ho : ∀ cs, o ≠ .cells cs 71 (0, 0) ∧ o ≠ .cells cs 107 (0, 0)) : G b = none := by
  cases hG : G b with
  | none => rfl
  | some nd =>
    exfalso
    obtain ⟨cs, T, h1, h2⟩ := h.at_ (b := b) (by rw [hG]; rfl)
    rw [h1] at hb
    have e := Option.some.inj hb
    rcases h2 with rfl | rfl
    · exact (ho cs).1 e.symm
    · exact (ho cs).2 e.symm
/-- A board by its blocks alone: the nodes' and their kids' rows. -/
theorem UBoard.step {G : UG} {KR : Nat → Prop} {w w1 : World} (h : UBoard G (fun _ => none) (fun _ => 0) w) (hkr : ∀ b c ks A cap ad, G b = some (.tree c ks A cap) → ks ≠ [] → A = some ad → KR ad.block) (h1 : ∀ b, (G b).isSome → w1.heap[b]? = w.heap[b]?) (h2 : ∀ k, KR k → w1.heap[k]? = w.heap[k]?) : UBoard G (fun _ => none) (fun _ => 0) w1 where
  var := fun b n hb => (h1 b (by rw [hb]; rfl)).trans (h.var b n hb)
  tree := fun b c ks A cap hb => (h1 b (by rw [hb]; rfl)).trans (h.tree b c ks A cap hb)
  kid := fun b c ks A cap hb i hi => by
    obtain ⟨ad, e, hg, hc⟩ := h.kid b c ks A cap hb i hi
    refine ⟨ad, e, hg, ?_⟩
    have := h2 ad.block (hkr b c ks A cap ad hb (by rintro rfl; simp at hi) e)
    rw [← hc]
    simp only [World.cell?, add_block, this]
  closed := h.closed
  isIn := h.isIn
  num := h.num
  few := h.few
section
variable {l0 : List S85} {A0 : Option Addr} {c0 g B : Nat} {w0 w w1 : World} {G : UG} {KR : Nat → Prop} {fl : Nat → List Int} {vs : List Nat} {vv : Value}
theorem LayI.step (h : LayI l0 A0 c0 g B w0 G KR fl vs vv w) (hb : Below w0.heap.size w0 w1) (h1 : ∀ b, (G b).isSome → w1.heap[b]? = w.heap[b]?) (h2 : ∀ k, KR k → w1.heap[k]? = w.heap[k]?) (h3 : w1.heap[g]? = w.heap[g]?) (h4 : w1.heap[B]? = w.heap[B]?) (h5 : ∀ k, vv.ownBlock = some k → w1.heap[k]? = w.heap[k]?) : LayI l0 A0 c0 g B w0 G KR fl vs vv w1 :=
  { h with
    brd := h.brd.step h.kr h1 h2
    krt := fun k hk => by obtain ⟨cs, e⟩ := h.krt k hk; exact ⟨cs, (h2 k hk).trans e⟩
    bg := h3.trans h.bg
    own := own_move h.own h5
    map := by obtain ⟨m, hm, hr⟩ := h.map; exact ⟨m, hm.step h4, hr⟩
    bel := hb }
theorem LayI.lt (h : LayI l0 A0 c0 g B w0 G KR fl vs vv w) : (∀ b, (G b).isSome → b < w.heap.size) ∧ (∀ k, KR k → k < w.heap.size) ∧ g < w.heap.size ∧ B < w.heap.size ∧ ∀ k, vv.ownBlock = some k → k < w.heap.size := by
  refine ⟨fun b hb => ?_, fun k hk => ?_, blk_lt h.bg, ?_, own_lt h.own⟩
  · obtain ⟨cs, T, e, _⟩ := h.brd.at_ hb
    exact blk_lt e
  · obtain ⟨cs, e⟩ := h.krt k hk
    exact blk_lt e
  · obtain ⟨m, hm, _⟩ := h.map
    exact hm.lt
theorem LayI.below (h : LayI l0 A0 c0 g B w0 G KR fl vs vv w) (hb : Below w.heap.size w w1) : LayI l0 A0 c0 g B w0 G KR fl vs vv w1 := by
  obtain ⟨h1, h2, h3, h4, h5⟩ := h.lt
  exact h.step (below_then h.bel h.bel.size hb) (fun b hb' => hb.block b (h1 b hb')) (fun k hk => hb.block k (h2 k hk)) (hb.block g h3) (hb.block B h4) (fun k hk => hb.block k (h5 k hk))
theorem LayI.far (h : LayI l0 A0 c0 g B w0 G KR fl vs vv w) {x o : Nat} {T : TypeId} {cs : Array Value} (hx : w.heap[x]? = some (.cells cs T (0, 0))) (hG : G x = none) (hT : T ≠ 69 ∧ T ≠ 66 ∧ T ≠ 67) (hw : w0.heap.size ≤ x) (v : Value) : LayI l0 A0 c0 g B w0 G KR fl vs vv (w.setCell ⟨x, o, none⟩ v) := by
  refine h.step (below_set h.bel hw) (fun b hb => Below.heap_setCell _ _ _ _ ?_) (fun k hk => Below.heap_setCell _ _ _ _ ?_) (Below.heap_setCell _ _ _ _ ?_) (Below.heap_setCell _ _ _ _ ?_) (fun k hk => Below.heap_setCell _ _ _ _ ?_)
  · rintro rfl; rw [hG] at hb; simp at hb
  · rintro rfl
    obtain ⟨cs', e⟩ := h.krt _ hk
    exact blk_ne e hx hT.1.symm rfl
  · exact blk_ne h.bg hx hT.2.1.symm
  · rintro rfl
    obtain ⟨m, hm, _⟩ := h.map
    exact hm.not_cells _ _ _ hx
  · rintro rfl
    exact own_ne h.own hx hT.2.2.symm hk.symm
end
/-- What a call of lay leaves as it was. -/
structure LayX (g B : Nat) (w w' : World) (G G' : UG) (KR KR' : Nat → Prop) (fl fl' : Nat → List Int) (vs vs' : List Nat) (vv vv' : Value) (u : List Int) : Prop where
  gx : ∀ b, (G b).isSome → G' b = G b
  nx : ∀ b, G b = none → (G' b).isSome → w.heap.size ≤ b
  krx : ∀ k, KR' k → KR k ∨ w.heap.size ≤ k
  flx : ∀ b, (G b).isSome → fl' b = fl b
  vsx : ∃ l, vs' = vs ++ l ∧ ∀ b ∈ l, ∃ n, G' b = some (.var n) ∧ (-1 - n) ∈ u
  vvx : vv'.ownBlock = vv.ownBlock ∨ ∃ b, vv'.ownBlock = some b ∧ w.heap.size ≤ b
  keepx : ∀ k, k < w.heap.size → k ≠ g → k ≠ B → some k ≠ vv.ownBlock → w'.heap[k]? = w.heap[k]?
  sizex : w.heap.size ≤ w'.heap.size
section
variable {g B : Nat} {w w1 w2 : World} {G G1 G2 : UG} {KR KR1 KR2 : Nat → Prop} {fl fl1 fl2 : Nat → List Int} {vs vs1 vs2 : List Nat} {vv vv1 vv2 : Value} {u1 u2 : List Int}
theorem LayX.refl (g B : Nat) (w : World) (G : UG) (KR : Nat → Prop) (fl : Nat → List Int) (vs : List Nat) (vv : Value) : LayX g B w w G G KR KR fl fl vs vs vv vv [] where
  gx := fun _ _ => rfl
  nx := fun b h1 h2 => by rw [h1] at h2; simp at h2
  krx := fun _ h => .inl h
  flx := fun _ _ => rfl
  vsx := ⟨[], by simp, fun b hb => by cases hb⟩
  vvx := .inl rfl
  keepx := fun _ _ _ _ _ => rfl
  sizex := Nat.le_refl _
theorem LayX.trans (h1 : LayX g B w w1 G G1 KR KR1 fl fl1 vs vs1 vv vv1 u1) (h2 : LayX g B w1 w2 G1 G2 KR1 KR2 fl1 fl2 vs1 vs2 vv1 vv2 u2) : LayX g B w w2 G G2 KR KR2 fl fl2 vs vs2 vv vv2 (u1 ++ u2) where
  gx := fun b hb => by
    have e := h1.gx b hb
    rw [h2.gx b (by rw [e]; exact hb), e]
  nx := fun b hb hb2 => by
    cases hG : G1 b with
    | none => have := h2.nx b hG hb2; have := h1.sizex; omega
    | some nd => exact h1.nx b hb (by rw [hG]; rfl)
  krx := fun k hk => by
    rcases h2.krx k hk with h | h
    · exact h1.krx k h
    · have := h1.sizex; exact .inr (by omega)
  flx := fun b hb => by
    have e := h1.gx b hb
    rw [h2.flx b (by rw [e]; exact hb), h1.flx b hb]
  vsx := by
    obtain ⟨l1, e1, p1⟩ := h1.vsx
    obtain ⟨l2, e2, p2⟩ := h2.vsx
    refine ⟨l1 ++ l2, by rw [e2, e1, List.append_assoc], fun b hb => ?_⟩
    rcases List.mem_append.1 hb with hb | hb
    · obtain ⟨n, h3, h4⟩ := p1 b hb
      exact ⟨n, by rw [h2.gx b (by rw [h3]; rfl), h3], List.mem_append_left _ h4⟩
    · obtain ⟨n, h3, h4⟩ := p2 b hb
      exact ⟨n, h3, List.mem_append_right _ h4⟩
  vvx := by
    rcases h2.vvx with h | ⟨b, h, h'⟩
    · rw [h]; exact h1.vvx
    · have := h1.sizex; exact .inr ⟨b, h, by omega⟩
  keepx := fun k hk hg hB hv => by
    have := h1.sizex
    rw [h2.keepx k (by omega) hg hB ?_, h1.keepx k hk hg hB hv]
    rcases h1.vvx with h | ⟨b, h, h'⟩
    · rw [h]; exact hv
    · rw [h]; intro e; cases e; omega
  sizex := Nat.le_trans h1.sizex h2.sizex
theorem LayX.mono (h : LayX g B w w1 G G1 KR KR1 fl fl1 vs vs1 vv vv1 u1) (hu : ∀ c, c ∈ u1 → c ∈ u2) : LayX g B w w1 G G1 KR KR1 fl fl1 vs vs1 vv vv1 u2 :=
  { h with
    vsx := by
      obtain ⟨l, e, p⟩ := h.vsx
      exact ⟨l, e, fun b hb => by obtain ⟨n, h3, h4⟩ := p b hb; exact ⟨n, h3, hu _ h4⟩⟩ }
/-- .. from an elder world on, which differs in nothing that was there. -/
theorem LayX.older {w0 : World} (h : LayX g B w w1 G G1 KR KR1 fl fl1 vs vs1 vv vv1 u1) (hs : w0.heap.size ≤ w.heap.size) (hk : ∀ k, k < w0.heap.size → k ≠ g → k ≠ B → some k ≠ vv.ownBlock → w.heap[k]? = w0.heap[k]?) : LayX g B w0 w1 G G1 KR KR1 fl fl1 vs vs1 vv vv1 u1 :=
  { h with
    nx := fun b h1 h2 => Nat.le_trans hs (h.nx b h1 h2)
    krx := fun k hk' => (h.krx k hk').imp id (fun h2 => Nat.le_trans hs h2)
    vvx := h.vvx.imp id (fun ⟨b, h1, h2⟩ => ⟨b, h1, Nat.le_trans hs h2⟩)
    keepx := fun k h1 h2 h3 h4 => (h.keepx k (Nat.lt_of_lt_of_le h1 hs) h2 h3 h4).trans (hk k h1 h2 h3 h4)
    sizex := Nat.le_trans hs h.sizex }
theorem LayX.newer (h : LayX g B w w1 G G1 KR KR1 fl fl1 vs vs1 vv vv1 u1) (hs : w1.heap.size ≤ w2.heap.size) (hk : ∀ k, k < w.heap.size → k ≠ g → k ≠ B → some k ≠ vv.ownBlock → w2.heap[k]? = w1.heap[k]?) : LayX g B w w2 G G1 KR KR1 fl fl1 vs vs1 vv vv1 u1 :=
  { h with
    keepx := fun k h1 h2 h3 h4 => (hk k h1 h2 h3 h4).trans (h.keepx k h1 h2 h3 h4)
    sizex := Nat.le_trans h.sizex hs }
end
def extG (G : UG) (V : Nat) (nd : UN) : UG := fun b => if b = V then some nd else G b
theorem extG_same (G : UG) (V : Nat) (nd : UN) : extG G V nd V = some nd := if_pos rfl
theorem extG_other (G : UG) {V b : Nat} (nd : UN) (h : b ≠ V) : extG G V nd b = G b := if_neg h
theorem extG_some {G : UG} {V : Nat} (nd : UN) (hV : G V = none) {b : Nat} (hb : (G b).isSome) : extG G V nd b = G b := extG_other G nd (by rintro rfl; rw [hV] at hb; simp at hb)
theorem extG_ifv {G : UG} {V : Nat} (nd : UN) (hV : G V = none) {b : Nat} (hb : (G b).isSome) : ifv (extG G V nd) b = ifv G b := by unfold ifv; rw [extG_some nd hV hb]
theorem UBoard.add {G : UG} {w : World} (h : UBoard G (fun _ => none) (fun _ => 0) w) {V : Nat} {nd : UN} (hV : G V = none) (hfree : ∀ b c ks A cap ad, G b = some (.tree c ks A cap) → ks ≠ [] → A = some ad → ad.block ≠ V)
    (hvar : ∀ n, nd = .var n → w.heap[V]? = some (.cells #[.int .i64 n, .nilIface] 71 (0, 0)) ∧ 0 ≤ n ∧ n ≤ 1048575)
    (htree : ∀ c ks A cap, nd = .tree c ks A cap → w.heap[V]? = some (.cells #[.int .i64 c, .slice A ks.length cap, .nilIface, .int .i64 0] 107 (0, 0)) ∧ (∀ i (hi : i < ks.length), ∃ ad, A = some ad ∧ G ad.block = none ∧ ad.block ≠ V ∧ w.cell? (ad.add i) = some (ifv G ks[i])) ∧ (∀ k ∈ ks, (G k).isSome) ∧ ks.length ≤ 1048576) :
    UBoard (extG G V nd) (fun _ => none) (fun _ => 0) w where
  var := fun b n hb => by
    by_cases e : b = V
    · subst e; rw [extG_same] at hb; exact (hvar n (Option.some.inj hb)).1
    · rw [extG_other G nd e] at hb; exact h.var b n hb
  tree := fun b c ks A cap hb => by
    by_cases e : b = V
    · subst e; rw [extG_same] at hb; exact (htree c ks A cap (Option.some.inj hb)).1
    · rw [extG_other G nd e] at hb; exact h.tree b c ks A cap hb
  kid := fun b c ks A cap hb i hi => by
    by_cases e : b = V
    · subst e
      rw [extG_same] at hb
      obtain ⟨_, h2, h3, _⟩ := htree c ks A cap (Option.some.inj hb)
      obtain ⟨ad, h4, h5, h6, h7⟩ := h2 i hi
      exact ⟨ad, h4, by rw [extG_other G nd h6]; exact h5, by rw [h7, extG_ifv nd hV (h3 _ (List.getElem_mem hi))]⟩
    · rw [extG_other G nd e] at hb
      obtain ⟨ad, h4, h5, h7⟩ := h.kid b c ks A cap hb i hi
      exact ⟨ad, h4, by rw [extG_other G nd (hfree b c ks A cap ad hb (by rintro rfl; simp at hi) h4)]; exact h5, by rw [h7, extG_ifv nd hV (h.closed b c ks A cap hb _ (List.getElem_mem hi))]⟩
  closed := fun b c ks A cap hb k hk => by
    have hs : (G k).isSome := by
      by_cases e : b = V
      · subst e; rw [extG_same] at hb; exact (htree c ks A cap (Option.some.inj hb)).2.2.1 k hk
      · rw [extG_other G nd e] at hb; exact h.closed b c ks A cap hb k hk
    rw [extG_some nd hV hs]
    exact hs
  isIn := fun b r hr => by cases hr
  num := fun b n hb => by
    by_cases e : b = V
    · subst e; rw [extG_same] at hb; exact (hvar n (Option.some.inj hb)).2
    · rw [extG_other G nd e] at hb; exact h.num b n hb
  few := fun b c ks A cap hb => by
    by_cases e : b = V
    · subst e; rw [extG_same] at hb; exact (htree c ks A cap (Option.some.inj hb)).2.2.2
    · rw [extG_other G nd e] at hb; exact h.few b c ks A cap hb
theorem Flat.add {sig : List S85} {G : UG} {fl : Nat → List Int} (h : Flat sig G fl) {V : Nat} {nd : UN} {u : List Int} (hV : G V = none) (hcl : ∀ b c ks A cap, G b = some (.tree c ks A cap) → ∀ k, k ∈ ks → (G k).isSome)
    (hvar : ∀ n, nd = .var n → u = [-1 - n]) (htree : ∀ c ks A cap, nd = .tree c ks A cap → u = c :: ks.flatMap fl ∧ ks.length = ari sig c ∧ 0 ≤ c ∧ c < sig.length ∧ ∀ k ∈ ks, (G k).isSome) : Flat sig (extG G V nd) (fun b => if b = V then u else fl b) where
  var := fun b n hb => by
    by_cases e : b = V
    · subst e; rw [extG_same] at hb; rw [if_pos rfl]; exact hvar n (Option.some.inj hb)
    · rw [extG_other G nd e] at hb; rw [if_neg e]; exact h.var b n hb
  tree := fun b c ks A cap hb => by
    have hne : ∀ k, (G k).isSome → k ≠ V := fun k hk e => by rw [e, hV] at hk; simp at hk
    by_cases e : b = V
    · subst e
      rw [extG_same] at hb
      rw [if_pos rfl]
      obtain ⟨h1, h2, h3, h4, h5⟩ := htree c ks A cap (Option.some.inj hb)
      exact ⟨h1.trans (congrArg (fun z => c :: z) (flatMap_congr (l := ks) (f := fl) (g := fun b' => if b' = b then u else fl b') (fun k hk => (if_neg (hne k (h5 k hk))).symm))), h2, h3, h4⟩
    · rw [extG_other G nd e] at hb
      rw [if_neg e]
      obtain ⟨h1, h2, h3, h4⟩ := h.tree b c ks A cap hb
      exact ⟨h1.trans (congrArg (fun z => c :: z) (flatMap_congr (l := ks) (f := fl) (g := fun b' => if b' = V then u else fl b') (fun k hk => (if_neg (hne k (hcl b c ks A cap hb k hk))).symm))), h2, h3, h4⟩
section
variable {l0 : List S85} {A0 : Option Addr} {c0 g B : Nat} {w0 w w3 w5 : World} {G : UG} {KR : Nat → Prop} {fl : Nat → List Int} {vs : List Nat} {vv vv' : Value}
theorem LayI.apart (h : LayI l0 A0 c0 g B w0 G KR fl vs vv w) : G g = none ∧ G B = none ∧ (∀ k, vv.ownBlock = some k → G k = none) ∧ ¬ KR g ∧ ¬ KR B ∧ (∀ k, vv.ownBlock = some k → ¬ KR k) ∧ g ≠ B ∧ some g ≠ vv.ownBlock ∧ some B ≠ vv.ownBlock := by
  obtain ⟨m, hm, _⟩ := h.map
  refine ⟨h.brd.none_of h.bg (fun cs => ⟨cells_ne (by decide), cells_ne (by decide)⟩), ?_, ?_, ?_, ?_, ?_, ?_, ?_, ?_⟩
  · cases hG : G B with
    | none => rfl
    | some nd =>
      exfalso
      obtain ⟨cs, T, e, _⟩ := h.brd.at_ (b := B) (by rw [hG]; rfl)
      exact hm.not_cells _ _ _ e
  · intro k hk
    cases hG : G k with
    | none => rfl
    | some nd =>
      exfalso
      obtain ⟨cs, T, e, hT⟩ := h.brd.at_ (b := k) (by rw [hG]; rfl)
      exact own_ne h.own e (by rcases hT with rfl | rfl <;> decide) hk.symm
  · intro hk
    obtain ⟨cs, e⟩ := h.krt g hk
    exact blk_ne e h.bg (by decide) rfl
  · intro hk
    obtain ⟨cs, e⟩ := h.krt B hk
    exact hm.not_cells _ _ _ e
  · intro k hk hkr
    obtain ⟨cs, e⟩ := h.krt k hkr
    exact own_ne h.own e (by decide) hk.symm
  · rintro rfl
    exact hm.not_cells _ _ _ h.bg
  · exact own_ne h.own h.bg (by decide)
  · intro e
    rcases h.own.2 with ⟨h1, _⟩ | ⟨g', cap, cur, h1, _, h2, _⟩
    · rw [h1] at e; cases e
    · rw [h1] at e
      cases e
      exact hm.not_cells _ _ _ h2
theorem LayI.few (h : LayI l0 A0 c0 g B w0 G KR fl vs vv w) : vs.length ≤ 1048577 := by
  obtain ⟨m, _, hm, _⟩ := h.map
  have key : ∀ i (hi : i < vs.length), ∃ n, G vs[i] = some (.var n) ∧ m (-1 - n) = some (.int .i64 (i : Nat)) := hm
  have := nodup_small 1048577 (vs.map fun b => match G b with | some (.var n) => n | _ => 0) (by
    rw [List.Nodup, List.pairwise_iff_getElem]
    intro i j hi hj hij
    rw [List.length_map] at hi hj
    obtain ⟨n1, e1, f1⟩ := key i hi
    obtain ⟨n2, e2, f2⟩ := key j hj
    rw [List.getElem_map, List.getElem_map]
    simp only [e1, e2]
    rintro rfl
    rw [f1] at f2
    injection f2 with f2
    injection f2 with _ f2
    omega) (fun x hx => by
    obtain ⟨b, hb, rfl⟩ := List.mem_map.1 hx
    obtain ⟨i, hi, rfl⟩ := List.getElem_of_mem hb
    obtain ⟨n1, e1, f1⟩ := key i hi
    simp only [e1]
    have := h.brd.num _ _ e1
    omega)
  simpa using this
/-- A variable that is new. -/
theorem LayI.newvar (h : LayI l0 A0 c0 g B w0 G KR fl vs vv w) {c : Int} (hc : c < 0) (hlo : -1048576 ≤ c) {m : Int → Option Value} (hm1 : ∀ i (h : i < vs.length), ∃ n, G vs[i] = some (.var n) ∧ m (-1 - n) = some (.int .i64 (i : Nat))) (hm2 : ∀ c v, m c = some v → ∃ i, ∃ h : i < vs.length, v = .int .i64 (i : Nat) ∧ G vs[i] = some (.var (-1 - c))) (hnone : m c = none)
    (hM : MapI w3 B (vs.length + 1) (fun k' => if k' = c then some (.int .i64 ((vs.length : Nat) : Int)) else m k')) (hg3 : w.grownBy w3 (some B))
    (ho : w5.ownsRow w0.heap.size 67 1 vv' (vs.length + 1) (vs.map vptr ++ [vptr w3.heap.size])) (hg5 : (w3.alloc (.cells #[.int .i64 (-1 - c), .nilIface] 71)).grownBy w5 vv.ownBlock) (hb5 : Below w0.heap.size w0 w5) (hat : vv'.ownBlock = vv.ownBlock ∨ ∃ b, vv'.ownBlock = some b ∧ (w3.alloc (.cells #[.int .i64 (-1 - c), .nilIface] 71)).heap.size ≤ b) :
    LayI l0 A0 c0 g B w0 (extG G w3.heap.size (.var (-1 - c))) KR (fun b => if b = w3.heap.size then [c] else fl b) (vs ++ [w3.heap.size]) vv' (w5.setCell ⟨g, 1, none⟩ vv') ∧
    LayX g B w (w5.setCell ⟨g, 1, none⟩ vv') G (extG G w3.heap.size (.var (-1 - c))) KR KR fl (fun b => if b = w3.heap.size then [c] else fl b) vs (vs ++ [w3.heap.size]) vv vv' [c] ∧ extG G w3.heap.size (.var (-1 - c)) w3.heap.size = some (.var (-1 - c)) := by
  obtain ⟨a1, a2, a3, a4, a5, a6, a7, a8, a9⟩ := h.apart
  obtain ⟨b1, b2, b3, b4, b5⟩ := h.lt
  have s3 := hg3.size
  have sa : (w3.alloc (.cells #[.int .i64 (-1 - c), .nilIface] 71)).heap.size = w3.heap.size + 1 := alloc_size _ _
  have s5 := hg5.size
  have hkeep : ∀ k, k < w.heap.size → k ≠ g → k ≠ B → some k ≠ vv.ownBlock → (w5.setCell ⟨g, 1, none⟩ vv').heap[k]? = w.heap[k]? := fun k h1 h2 h3 h4 => by
    rw [Below.heap_setCell w5 ⟨g, 1, none⟩ vv' k h2, hg5.block k (by omega) h4, (below_alloc (Below.refl _ _) _).block k (by omega), hg3.block k h1 (by intro e; cases e; exact h3 rfl)]
  have hV : G w3.heap.size = none := by
    cases hG : G w3.heap.size with
    | none => rfl
    | some nd => have := b1 w3.heap.size (by rw [hG]; rfl); omega
  have hVb : (w5.setCell ⟨g, 1, none⟩ vv').heap[w3.heap.size]? = some (.cells #[.int .i64 (-1 - c), .nilIface] 71 (0, 0)) := by
    rw [Below.heap_setCell w5 ⟨g, 1, none⟩ vv' _ (by show w3.heap.size ≠ g; omega), hg5.block _ (by omega) (by intro e; have := b5 _ e.symm; omega)]
    exact blk_new _ _
  have hbrd := h.brd.step (w1 := w5.setCell ⟨g, 1, none⟩ vv') h.kr (fun b hb => hkeep b (b1 b hb) (by rintro rfl; rw [a1] at hb; simp at hb) (by rintro rfl; rw [a2] at hb; simp at hb) (by intro e; rw [a3 b e.symm] at hb; simp at hb)) (fun k hk => hkeep k (b2 k hk) (by rintro rfl; exact a4 hk) (by rintro rfl; exact a5 hk) (fun e => a6 k e.symm hk))
  have hB5 : (w5.setCell ⟨g, 1, none⟩ vv').heap[B]? = w3.heap[B]? := by
    rw [Below.heap_setCell w5 ⟨g, 1, none⟩ vv' B (fun e => a7 e.symm), hg5.block B (by omega) a9, (below_alloc (Below.refl _ _) _).block B (by omega)]
  have hg5b : w5.heap[g]? = some (.cells #[.slice A0 l0.length c0, vv, .map (some B)] 66 (0, 0)) := by
    rw [hg5.block g (by omega) a8, (below_alloc (Below.refl _ _) _).block g (by omega), hg3.block g b3 (by intro e; cases e; exact a7 rfl)]
    exact h.bg
  refine ⟨{
    brd := hbrd.add hV (fun b c ks A cap ad hb hk ha => by have := b2 _ (h.kr b c ks A cap ad hb hk ha); omega) (fun n hn => by cases hn; exact ⟨hVb, by omega, by omega⟩) (fun c ks A cap hn => by cases hn),
    kr := fun b c' ks A cap ad hb hk ha => by
      by_cases e : b = w3.heap.size
      · subst e; rw [extG_same] at hb; cases hb
      · rw [extG_other G _ e] at hb; exact h.kr b c' ks A cap ad hb hk ha,
    krt := fun k hk => by
      obtain ⟨cs, e⟩ := h.krt k hk
      exact ⟨cs, (hkeep k (b2 k hk) (by rintro rfl; exact a4 hk) (by rintro rfl; exact a5 hk) (fun e => a6 k e.symm hk)).trans e⟩,
    bg := blk_put (cs := #[.slice A0 l0.length c0, vv, .map (some B)]) hg5b 1 vv' rfl,
    own := by
      rw [List.length_append, List.map_append]
      exact own_setCell ho (own_ne ho hg5b (by decide)) _,
    map := by
      have hM' := hM.step hB5
      rw [show vs.length + 1 = (vs ++ [w3.heap.size]).length by simp] at hM'
      refine ⟨_, hM', fun i hi => ?_, fun c' v hv => ?_⟩
      · rw [List.length_append] at hi
        by_cases e : i < vs.length
        · rw [List.getElem_append_left e]
          obtain ⟨n, h1, h2⟩ := hm1 i e
          refine ⟨n, by rw [extG_some _ hV (by rw [h1]; rfl)]; exact h1, ?_⟩
          show (if -1 - n = c then _ else m (-1 - n)) = _
          rw [if_neg (by rintro rfl; rw [h2] at hnone; cases hnone)]
          exact h2
        · obtain rfl : i = vs.length := by simp at hi; omega
          rw [List.getElem_append_right (Nat.le_refl _)]
          simp only [Nat.sub_self, List.getElem_cons_zero]
          refine ⟨-1 - c, extG_same _ _ _, ?_⟩
          show (if -1 - (-1 - c) = c then _ else m (-1 - (-1 - c))) = _
          rw [if_pos (by omega)]
      · change (if c' = c then _ else m c') = _ at hv
        by_cases e : c' = c
        · subst e
          rw [if_pos rfl] at hv
          refine ⟨vs.length, by simp, (Option.some.inj hv).symm, ?_⟩
          rw [List.getElem_append_right (Nat.le_refl _)]
          simp only [Nat.sub_self, List.getElem_cons_zero]
          exact extG_same _ _ _
        · rw [if_neg e] at hv
          obtain ⟨i, hi, h1, h2⟩ := hm2 c' v hv
          refine ⟨i, by simp; omega, h1, ?_⟩
          rw [List.getElem_append_left hi, extG_some _ hV (by rw [h2]; rfl)]
          exact h2,
    vall := fun b n hb => by
      by_cases e : b = w3.heap.size
      · subst e; simp
      · rw [extG_other G _ e] at hb; exact List.mem_append_left _ (h.vall b n hb),
    bel := below_set hb5 h.hg,
    base := fun b hb => by
      by_cases e : b = w3.heap.size
      · subst e; have := h.bel.size; omega
      · rw [extG_other G _ e] at hb; exact h.base b hb,
    flat := h.flat.add hV h.brd.closed (fun n hn => by cases hn; congr 1; omega) (fun c ks A cap hn => by cases hn),
    hg := h.hg, hB := h.hB }, {
    gx := fun b hb => extG_some _ hV hb,
    nx := fun b hb hb2 => by
      by_cases e : b = w3.heap.size
      · omega
      · rw [extG_other G _ e, hb] at hb2; simp at hb2,
    krx := fun k hk => .inl hk,
    flx := fun b hb => if_neg (by rintro rfl; rw [hV] at hb; simp at hb),
    vsx := ⟨[w3.heap.size], rfl, fun b hb => by
      rw [List.mem_singleton.1 hb]
      exact ⟨-1 - c, extG_same _ _ _, by simp; omega⟩⟩,
    vvx := hat.imp id (fun ⟨b, h1, h2⟩ => ⟨b, h1, by omega⟩),
    keepx := hkeep,
    sizex := by
      have : (w5.setCell ⟨g, 1, none⟩ vv').heap.size = w5.heap.size := by simp [World.setCell]
      omega }, extG_same _ _ _⟩
/-- A tree whose kids are laid. -/
theorem LayI.newtree (h : LayI l0 A0 c0 g B w0 G KR fl vs vv w) {X : Nat} {c : Int} {ks : List Nat} {A : Option Addr} {cap : Nat} (h0 : 0 ≤ c) (h1 : c < l0.length) (hX : G X = none) (hXb : w0.heap.size ≤ X) (hXg : ∀ k, KR k → k ≠ X)
    (hblk : w.heap[X]? = some (.cells #[.int .i64 c, .slice A ks.length cap, .nilIface, .int .i64 0] 107 (0, 0))) (hown : w.ownsRow w0.heap.size 69 1 (.slice A ks.length cap) ks.length (ks.map (ifv G))) (hks : ∀ k ∈ ks, (G k).isSome) (hlen : ks.length = ari l0 c) (hfew : ks.length ≤ 1048576) :
    LayI l0 A0 c0 g B w0 (extG G X (.tree c ks A cap)) (fun k => KR k ∨ some k = (Value.slice A ks.length cap).ownBlock) (fun b => if b = X then c :: ks.flatMap fl else fl b) vs vv w := by
  have hrow : ∀ ad, A = some ad → ∃ cs, w.heap[ad.block]? = some (.cells cs 69 (0, 0)) := by
    intro ad e
    subst e
    rcases hown.2 with ⟨h1, _⟩ | ⟨g', cap', cur, h1, _, h2, _⟩
    · cases h1
    · have e : ad = ⟨g', 0, none⟩ := by injection h1 with e1; injection e1
      subst e
      exact ⟨cur, h2⟩
  have hnone : ∀ ad, A = some ad → G ad.block = none := fun ad e => by
    obtain ⟨cs, h2⟩ := hrow ad e
    exact h.brd.none_of h2 (fun cs => ⟨cells_ne (by decide), cells_ne (by decide)⟩)
  have hneX : ∀ ad, A = some ad → ad.block ≠ X := fun ad e e2 => by
    obtain ⟨cs, h2⟩ := hrow ad e
    rw [e2] at h2
    exact blk_ne h2 hblk (by decide) rfl
  refine {
    brd := h.brd.add hX (fun b c ks A cap ad hb hk ha => hXg _ (h.kr b c ks A cap ad hb hk ha)) (fun n hn => by cases hn) (fun c' ks' A' cap' hn => by
      cases hn
      refine ⟨hblk, fun i hi => ?_, hks, hfew⟩
      rcases hown.2 with ⟨e1, e2⟩ | ⟨g', cap', cur, e1, _⟩
      · rw [e2] at hi; exact absurd hi (Nat.not_lt_zero _)
      · have hA : A = some ⟨g', 0, none⟩ := by injection e1
        refine ⟨_, hA, hnone _ hA, hneX _ hA, ?_⟩
        exact World.ownsRow.cells hown (g := g') (by rw [hA]; rfl) i _ (by rw [List.getElem?_map, List.getElem?_eq_getElem hi]; rfl)),
    kr := fun b c' ks' A' cap' ad hb hk ha => by
      by_cases e : b = X
      · subst e
        rw [extG_same] at hb
        cases hb
        exact .inr (by rw [ha]; rfl)
      · rw [extG_other G _ e] at hb; exact .inl (h.kr b c' ks' A' cap' ad hb hk ha),
    krt := fun k hk => by
      rcases hk with hk | hk
      · exact h.krt k hk
      · cases A with
        | none => cases hk
        | some ad =>
          have : k = ad.block := by injection hk
          rw [this]
          exact hrow ad rfl,
    bg := h.bg, own := h.own,
    map := by
      obtain ⟨m, hm, h3, h4⟩ := h.map
      refine ⟨m, hm, fun i hi => ?_, fun c v hv => ?_⟩
      · obtain ⟨n, h5, h6⟩ := h3 i hi
        exact ⟨n, by rw [extG_some _ hX (by rw [h5]; rfl)]; exact h5, h6⟩
      · obtain ⟨i, hi, h5, h6⟩ := h4 c v hv
        exact ⟨i, hi, h5, by rw [extG_some _ hX (by rw [h6]; rfl)]; exact h6⟩,
    vall := fun b n hb => by
      by_cases e : b = X
      · subst e; rw [extG_same] at hb; cases hb
      · rw [extG_other G _ e] at hb; exact h.vall b n hb,
    bel := h.bel,
    base := fun b hb => by
      by_cases e : b = X
      · subst e; exact hXb
      · rw [extG_other G _ e] at hb; exact h.base b hb,
    flat := h.flat.add hX h.brd.closed (fun n hn => by cases hn) (fun c' ks' A' cap' hn => by cases hn; exact ⟨rfl, hlen, h0, h1, hks⟩),
    hg := h.hg, hB := h.hB }
end
end
section
theorem info69 : (Tryd.prog.info? 69).map (fun i => (i.zero, i.size, i.bytes)) = some (some .nilIface, 1, 16) := by kernel_rfl
theorem info67 : (Tryd.prog.info? 67).map (fun i => (i.zero, i.size, i.bytes)) = some (some (.pointer none), 1, 8) := by kernel_rfl
def LayPost (l0 : List S85) (A0 : Option Addr) (c0 g B : Nat) (w0 : World) (m : Nat) (t : List Int) (G : UG) (KR : Nat → Prop) (fl : Nat → List Int) (vs : List Nat) (vv : Value) (w : World) (e : Ending) (w' : World) : Prop :=
  ∃ (u rest : List Int) (A2 : Option Addr) (c2 r : Nat) (G' : UG) (KR' : Nat → Prop) (fl' : Nat → List Int) (vs' : List Nat) (vv' : Value), e = .returned (.tuple #[ifv G' r, .slice A2 rest.length c2]) ∧ t = u ++ rest ∧ Terms l0 1 u ∧ Terms l0 m rest ∧ Kd.C (Kd.int .i64) w0 A2 rest.length rest ∧ rest.length ≤ c2 ∧
    LayI l0 A0 c0 g B w0 G' KR' fl' vs' vv' w' ∧ (G' r).isSome ∧ fl' r = u ∧ LayX g B w w' G G' KR KR' fl fl' vs vs' vv vv' u
structure LayL (l0 : List S85) (A0 : Option Addr) (c0 g B : Nat) (w0 w : World) (m n : Nat) (c : Int) (r : List Int) (G : UG) (KR : Nat → Prop) (fl : Nat → List Int) (vs : List Nat) (vv : Value) (j : Nat) (tj : List Int) (Aj : Option Addr) (cj : Nat) (G' : UG) (KR' : Nat → Prop) (fl' : Nat → List Int) (vs' : List Nat) (vv' : Value) (ks : List Nat) (kv : Value) (wx : World) : Prop where
  run : r = ks.flatMap fl' ++ tj
  len : ks.length = j
  us : Terms l0 j (ks.flatMap fl')
  tt : Terms l0 (m + (n - j)) tj
  rdt : Kd.C (Kd.int .i64) w0 Aj tj.length tj
  cap : tj.length ≤ cj
  inv : LayI l0 A0 c0 g B w0 G' KR' fl' vs' vv' wx
  ext : LayX g B w wx G G' KR KR' fl fl' vs vs' vv vv' (ks.flatMap fl')
  mem : ∀ k ∈ ks, (G' k).isSome
  new : G' w.heap.size = none
  blk : wx.heap[w.heap.size]? = some (.cells #[.int .i64 c, kv, .nilIface, .int .i64 0] 107 (0, 0))
  own : wx.ownsRow w0.heap.size 69 1 kv j (ks.map (ifv G'))
  krk : ∀ k, KR' k → some k ≠ kv.ownBlock
  kvb : ∀ k, kv.ownBlock = some k → w.heap.size < k
section
variable {l0 : List S85} {A0 : Option Addr} {c0 g B : Nat} {w0 w wx w2 w3 : World} {m n : Nat} {c : Int} {r : List Int} {G : UG} {KR : Nat → Prop} {fl : Nat → List Int} {vs : List Nat} {vv : Value} {j : Nat} {tj : List Int} {Aj : Option Addr} {cj : Nat} {G' : UG} {KR' : Nat → Prop} {fl' : Nat → List Int} {vs' : List Nat} {vv' : Value} {ks : List Nat} {kv : Value}
  {u rest : List Int} {A2 : Option Addr} {c2 r' : Nat} {G2 : UG} {KR2 : Nat → Prop} {fl2 : Nat → List Int} {vs2 : List Nat} {vv2 : Value} {kv2 : Value}
/-- What is true of the row of kids behind the call. -/
theorem LayL.called (h : LayL l0 A0 c0 g B w0 w m n c r G KR fl vs vv j tj Aj cj G' KR' fl' vs' vv' ks kv wx) (hI : LayI l0 A0 c0 g B w0 G2 KR2 fl2 vs2 vv2 w2) (hX : LayX g B wx w2 G' G2 KR' KR2 fl' fl2 vs' vs2 vv' vv2 u) :
    w2.heap[w.heap.size]? = some (.cells #[.int .i64 c, kv, .nilIface, .int .i64 0] 107 (0, 0)) ∧ w2.ownsRow w0.heap.size 69 1 kv j (ks.map (ifv G2)) ∧ ks.map (ifv G2) = ks.map (ifv G') ∧ ks.flatMap fl2 = ks.flatMap fl' := by
  obtain ⟨a1, a2, a3, a4, a5, a6, a7, a8, a9⟩ := h.inv.apart
  obtain ⟨mm, hm, _⟩ := h.inv.map
  have hXlt := blk_lt h.blk
  have e1 : ks.map (ifv G2) = ks.map (ifv G') := List.map_congr_left (fun k hk => by unfold ifv; rw [hX.gx k (h.mem k hk)])
  refine ⟨(hX.keepx _ hXlt (fun e => by have := h.inv.bg; rw [← e, h.blk] at this; cases this) (fun e => hm.not_cells _ _ _ (by rw [← e]; exact h.blk)) (own_ne h.inv.own h.blk (by decide))).trans h.blk, ?_, e1, flatMap_congr (fun k hk => hX.flx k (h.mem k hk))⟩
  rw [e1]
  refine own_move h.own (fun k hk => hX.keepx k (own_lt h.own k hk) ?_ ?_ ?_)
  · rintro rfl; exact own_ne h.own h.inv.bg (by decide) hk.symm
  · rintro rfl
    rcases h.own.2 with ⟨h1, _⟩ | ⟨g', cap, cur, h1, _, h2, _⟩
    · rw [h1] at hk; cases hk
    · rw [h1] at hk; cases hk; exact hm.not_cells _ _ _ h2
  · intro e
    rcases h.own.2 with ⟨h1, _⟩ | ⟨g', cap, cur, h1, _, h2, _⟩
    · rw [h1] at hk; cases hk
    · rw [h1] at hk; cases hk; exact own_ne h.inv.own h2 (by decide) e
theorem LayL.next (h : LayL l0 A0 c0 g B w0 w m n c r G KR fl vs vv j tj Aj cj G' KR' fl' vs' vv' ks kv wx) (hjn : j < n) (e1 : tj = u ++ rest) (hu : Terms l0 1 u) (hrest : Terms l0 (m + (n - (j + 1))) rest) (hC : Kd.C (Kd.int .i64) w0 A2 rest.length rest) (hc2 : rest.length ≤ c2)
    (hI : LayI l0 A0 c0 g B w0 G2 KR2 fl2 vs2 vv2 w2) (hr' : (G2 r').isSome) (hfl : fl2 r' = u) (hX : LayX g B wx w2 G' G2 KR' KR2 fl' fl2 vs' vs2 vv' vv2 u)
    (ho : w3.ownsRow w0.heap.size 69 1 kv2 (j + 1) (ks.map (ifv G2) ++ [ifv G2 r'])) (hb : Below w0.heap.size w0 w3) (hg : w2.grownBy w3 kv.ownBlock) (hat : kv2.ownBlock = kv.ownBlock ∨ ∃ b, kv2.ownBlock = some b ∧ w2.heap.size ≤ b) (hbw : w0.heap.size ≤ w.heap.size) :
    LayL l0 A0 c0 g B w0 w m n c r G KR fl vs vv (j + 1) rest A2 c2 G2 KR2 fl2 vs2 vv2 (ks ++ [r']) kv2 (w3.setCell ⟨w.heap.size, 1, none⟩ kv2) := by
  obtain ⟨k1, k2, k3, k4⟩ := h.called hI hX
  obtain ⟨a1, a2, a3, a4, a5, a6, a7, a8, a9⟩ := hI.apart
  obtain ⟨b1, b2, b3, b4, b5⟩ := hI.lt
  obtain ⟨mm, hm, _⟩ := hI.map
  have hXlt := blk_lt h.blk
  have hs2 := hX.sizex
  have hs3 := hg.size
  have hkvlt := own_lt h.own
  have typ : ∀ k, kv.ownBlock = some k → ∃ cur, w2.heap[k]? = some (.cells cur 69 (0, 0)) := fun k hk => by
    rcases k2.2 with ⟨h1, _⟩ | ⟨g', cap, cur, h1, _, h2, _⟩
    · rw [h1] at hk; cases hk
    · rw [h1] at hk; cases hk; exact ⟨cur, h2⟩
  have hnew : G2 w.heap.size = none := by
    cases hG : G2 w.heap.size with
    | none => rfl
    | some nd => have := hX.nx _ h.new (by rw [hG]; rfl); omega
  have hkr : ∀ k, KR2 k → some k ≠ kv.ownBlock := fun k hk e => by
    rcases hX.krx k hk with h1 | h1
    · exact h.krk k h1 e
    · have := hkvlt k e.symm; omega
  have hI3 : LayI l0 A0 c0 g B w0 G2 KR2 fl2 vs2 vv2 w3 := by
    refine hI.step hb (fun b hb' => hg.block b (b1 b hb') ?_) (fun k hk => hg.block k (b2 k hk) (hkr k hk)) (hg.block g b3 ?_) (hg.block B b4 ?_) (fun k hk => hg.block k (b5 k hk) ?_)
    · intro e
      obtain ⟨cur, h2⟩ := typ b e.symm
      obtain ⟨cs, T, h3, h4⟩ := hI.brd.at_ hb'
      rcases h4 with rfl | rfl
      · exact blk_ne h3 h2 (by decide) rfl
      · exact blk_ne h3 h2 (by decide) rfl
    · intro e
      obtain ⟨cur, h2⟩ := typ g e.symm
      exact blk_ne hI.bg h2 (by decide) rfl
    · intro e
      obtain ⟨cur, h2⟩ := typ B e.symm
      exact hm.not_cells _ _ _ h2
    · intro e
      obtain ⟨cur, h2⟩ := typ k e.symm
      exact own_ne hI.own h2 (by decide) hk.symm
  have hX3 : w3.heap[w.heap.size]? = some (.cells #[.int .i64 c, kv, .nilIface, .int .i64 0] 107 (0, 0)) := (hg.block _ (blk_lt k1) (own_ne k2 k1 (by decide))).trans k1
  exact {
    run := by rw [h.run, e1, List.flatMap_append, k4, List.flatMap_cons, List.flatMap_nil, List.append_nil, hfl, List.append_assoc],
    len := by rw [List.length_append, h.len]; rfl,
    us := by
      rw [List.flatMap_append, k4, List.flatMap_cons, List.flatMap_nil, List.append_nil, hfl]
      exact h.us.cat hu,
    tt := hrest, rdt := hC, cap := hc2,
    inv := hI3.far hX3 hnew ⟨by decide, by decide, by decide⟩ hbw kv2,
    ext := by
      have h1 := h.ext.trans hX
      have h2 : ks.flatMap fl' ++ u = (ks ++ [r']).flatMap fl2 := by rw [List.flatMap_append, k4, List.flatMap_cons, List.flatMap_nil, List.append_nil, hfl]
      rw [h2] at h1
      have hsz : (w3.setCell ⟨w.heap.size, 1, none⟩ kv2).heap.size = w3.heap.size := by simp [World.setCell]
      refine h1.newer (by omega) (fun k hk _ _ _ => ?_)
      rw [Below.heap_setCell w3 ⟨w.heap.size, 1, none⟩ kv2 k (by show k ≠ w.heap.size; omega)]
      exact hg.block k (by have := h.ext.sizex; omega) (fun e => by have := h.kvb k e.symm; omega),
    mem := fun k hk => by
      rcases List.mem_append.1 hk with hk | hk
      · rw [hX.gx k (h.mem k hk)]; exact h.mem k hk
      · rw [List.mem_singleton.1 hk]; exact hr',
    new := hnew,
    blk := blk_put (cs := #[.int .i64 c, kv, .nilIface, .int .i64 0]) hX3 1 kv2 rfl,
    own := by
      rw [List.map_append]
      exact own_setCell ho (own_ne ho hX3 (by decide)) _,
    krk := fun k hk e => by
      rcases hat with h1 | ⟨b, h1, h2⟩
      · rw [h1] at e; exact hkr k hk e
      · rw [h1] at e; cases e; have := b2 _ hk; omega,
    kvb := fun k hk => by
      rcases hat with h1 | ⟨b, h1, h2⟩
      · rw [h1] at hk; exact h.kvb k hk
      · rw [h1] at hk; cases hk; omega }
theorem LayL.fin (h : LayL l0 A0 c0 g B w0 w m n c r G KR fl vs vv n tj Aj cj G' KR' fl' vs' vv' ks kv wx) (h0 : 0 ≤ c) (h1 : c < l0.length) (hn : n = ari l0 c) (hn8 : n ≤ 8) (hbw : w0.heap.size ≤ w.heap.size) :
    LayPost l0 A0 c0 g B w0 m (c :: r) G KR fl vs vv w (.returned (.tuple #[.iface 104 (.pointer (some ⟨w.heap.size, 0, none⟩)), .slice Aj tj.length cj])) wx := by
  obtain ⟨A, cap, hkv⟩ := own_slice h.own
  have hown := h.own
  have hblk := h.blk
  rw [hkv] at hblk
  subst hkv
  have hlen := h.len
  have htt := h.tt
  rw [Nat.sub_self, Nat.add_zero] at htt
  rw [← hlen] at hown hblk
  have hXlt := blk_lt h.blk
  have hI := h.inv.newtree h0 h1 h.new hbw (fun k hk e => by
    obtain ⟨cs, h2⟩ := h.inv.krt k hk
    rw [e] at h2
    exact blk_ne h2 h.blk (by decide) rfl) hblk hown h.mem (by omega) (by omega)
  have hsame := extG_same G' w.heap.size (.tree c ks A cap)
  refine ⟨c :: ks.flatMap fl', tj, Aj, cj, w.heap.size, _, _, _, vs', vv', by rw [ifv_tree hsame], by rw [h.run]; rfl, ?_, htt, h.rdt, h.cap, hI, by rw [hsame]; rfl, if_pos rfl, ?_⟩
  · refine .app c h0 h1 ?_
    rw [Nat.zero_add, ← hn]
    exact h.us
  · exact {
      gx := fun b hb => by
        have e := h.ext.gx b hb
        rw [extG_some _ h.new (by rw [e]; exact hb), e]
      nx := fun b hb hb2 => by
        by_cases e : b = w.heap.size
        · omega
        · rw [extG_other G' _ e] at hb2; exact h.ext.nx b hb hb2
      krx := fun k hk => by
        rcases hk with hk | hk
        · exact h.ext.krx k hk
        · have := h.kvb k (by rw [← hlen]; exact hk.symm); exact .inr (by omega)
      flx := fun b hb => by
        have e := h.ext.gx b hb
        have hne : b ≠ w.heap.size := by
          rintro rfl
          have h2 := h.new
          rw [e] at h2
          rw [h2] at hb
          simp at hb
        show (if b = w.heap.size then _ else fl' b) = fl b
        rw [if_neg hne]
        exact h.ext.flx b hb
      vsx := by
        obtain ⟨l, e1, e2⟩ := h.ext.vsx
        refine ⟨l, e1, fun b hb => ?_⟩
        obtain ⟨nn, h3, h4⟩ := e2 b hb
        exact ⟨nn, by rw [extG_some _ h.new (by rw [h3]; rfl)]; exact h3, List.mem_cons_of_mem _ h4⟩
      vvx := h.ext.vvx
      keepx := h.ext.keepx
      sizex := h.ext.sizex }
end
set_option maxHeartbeats 4000000 in
set_option maxRecDepth 100000 in
theorem lay_calls (l0 : List S85) (har : arOk l0) (hs : l0.length ≤ 128) (A0 : Option Addr) (c0 g B : Nat) (w0 : World) (hr0 : Kd.C k85 w0 A0 l0.length l0) : ∀ (N : Nat) (t : List Int) (m : Nat) (A1 : Option Addr) (c1 : Nat) (G : UG) (KR : Nat → Prop) (fl : Nat → List Int) (vs : List Nat) (vv : Value) (w : World),
    t.length ≤ N → t.length ≤ 17592186044416 → Terms l0 (m + 1) t → Kd.C (Kd.int .i64) w0 A1 t.length t → t.length ≤ c1 → LayI l0 A0 c0 g B w0 G KR fl vs vv w →
    Calls Tryd.prog 61 #[.pointer (some ⟨g, 0, none⟩), .slice A1 t.length c1] w (LayPost l0 A0 c0 g B w0 m t G KR fl vs vv w) := by
  intro N
  induction N with
  | zero =>
    intro t m A1 c1 G KR fl vs vv w hN _ ht
    have := ht.le
    omega
  | succ N ih =>
    intro t m A1 c1 G KR fl vs vv w hN hlen ht hC hcap hI
    have hvl := hI.few
    cases t with
    | nil => cases ht
    | cons c r =>
      have hr' : (c :: r).drop 1 = r := rfl
      obtain ⟨ad, e, hx⟩ := at_L_int (Kd.C_below hC hI.bel) (0 : Int) (by omega) (by simp)
      subst e
      rw [Int.toNat_zero, addr_zero] at hx
      change w.cell? ad = some (.int .i64 c) at hx
      obtain ⟨A3, hcut, hrd3, hl3⟩ := cut_drop (some ad) c1 (c :: r) 1 (by omega) (by simp only [List.length_cons]; omega) hcap
      have hrd3 := hrd3 w0 hC
      simp only [show (1 : Int).toNat = 1 from rfl, hr'] at hcut hrd3 hl3
      simp only [List.length_cons] at hlen hN hcut hcap ⊢
      have HRD := Aside0.mk hrd3
      have HI := Aside0.mk hI
      have HHT := Aside0.mk ht
      have IH := Aside0.mk ih
      have HR0 := Aside0.mk hr0
      have hbg0 := (blk_cell hI.bg 0).trans rfl
      have hbg1 := (blk_cell hI.bg 1).trans rfl
      have hbg2 := (blk_cell hI.bg 2).trans rfl
      have hbgf := blk_frozen hI.bg 1
      have pb : ((0 : Int) < ((r.length + 1 : Nat) : Int)) = True := eq_true (by omega)
      by_cases hc : c < 0
      · have hlo : -1048576 ≤ c := by cases ht <;> omega
        have htr : Terms l0 m r := by
          cases ht with
          | var _ _ _ h => exact h
          | app _ h1 _ _ => omega
        have HTR := Aside0.mk htr
        obtain ⟨mm, hM, hm1, hm2⟩ := hI.map
        have hwf : (Lit.int .i64 c).wf = true := WalkArith.wf_i64 (by omega)
        have hzr := fun W => zero_intL W
        have HM := Aside0.mk hM
        have HM1 := Aside0.mk hm1
        have HM2 := Aside0.mk hm2
        clear hC hrd3 hI ht ih hr0 htr hM hm1 hm2
        cases hmc : mm c with
        | none =>
          have hown := HI.out.own
          obtain ⟨Av, cv, hvv⟩ := own_slice hown
          rw [hvv] at hbg1
          have HMC := Aside0.mk hmc
          have HVV := Aside0.mk hvv
          have hBlt := HI.out.lt.2.2.2.1
          clear hown hmc hvv
          go_enter Tryd.func61, Tryd.ntmps61
          go_wp2_with fail
          go_quiet (fail)
          go_wp2_with (first | (at_lookup; refine wpList_lookup_miss rfl _ _ 64 3 rfl Tryd.underlying64 (hzr _) B vs.length mm rfl (HM.out.step rfl) c rfl hwf HMC.out ?_) | (at_mapUpdate; refine wpList_update_mapI rfl _ _ _ 64 3 rfl Tryd.underlying64 B vs.length mm rfl (HM.out.step rfl) (by unfold maxLen; omega) c (.int .i64 (vs.length : Nat)) rfl rfl hwf ?_))
          intro w3 hM3 hg3
          have hI2 := HI.out.below (drewN_below w nq)
          obtain ⟨a1, a2, a3, a4, a5, a6, a7, a8, a9⟩ := hI2.apart
          have hbg3 := (hg3.block g (blk_lt hI2.bg) (by intro e; cases e; exact a7 rfl)).trans hI2.bg
          have h31 := (blk_cell hbg3 1).trans rfl
          have h3f := blk_frozen hbg3 1
          rw [HVV.out] at h31
          have hown3 := own_other hI2.own hg3 (.inr (by intro e; exact a9 e.symm))
          have hb3 := hI2.bel.grown hg3 hI2.bel.size (fun k hk => by cases hk; exact hI2.hB)
          have HM3 := Aside0.mk hM3
          have HG3 := Aside0.mk hg3
          have HBG3 := Aside0.mk hbg3
          have HOW3 := Aside0.mk hown3
          have HB3 := Aside0.mk hb3
          have HI2 := Aside0.mk hI2
          have hwc : IntKind.i64.wrap (-1 - c) = -1 - c := by rw [IntKind.wrap_i64]; omega
          have hV : w3.heap.size ≠ g := by have := blk_lt hbg3; omega
          clear hM3 hg3 hbg3 hown3 hb3 a1 a2 a3 a4 a5 a6 a7 a9 hI2
          go_wp2_with (first | (at_builtin; refine print_append_cells (w0 := w0) w0.heap.size rfl _ _ 63 67 (.pointer none) 1 8 rfl Tryd.underlying63 info67 rfl (by decide) (by decide) (.slice Av vs.length cv) vs.length (vs.map vptr) [vptr w3.heap.size] rfl ?c0 rfl ?c1 ?c2 ?c3 ?c4 ?c5 ?_))
          case c0 => rw [alloc_size]; rfl
          case c1 => intro u hu; rw [List.mem_singleton.1 hu]; rfl
          case c2 => rw [← HVV.out]; exact HOW3.out.alloc _
          case c3 => exact below_alloc HB3.out _
          case c4 => exact (below_alloc HB3.out _).size
          case c5 => omega
          intro v5 w5 ho5 hb5 hg5 hat5
          obtain ⟨g5, n5, c5, hv5, hn5⟩ : ∃ g n c, v5 = .slice (some ⟨g, 0, none⟩) n c ∧ n = vs.length + 1 := by
            rcases ho5.2 with ⟨_, h2⟩ | ⟨g', cap, cur, h1, _⟩
            · exact absurd h2 (by omega)
            · exact ⟨g', _, cap, h1, rfl⟩
          have hg5b := (hg5.block g (by rw [alloc_size]; have := blk_lt HBG3.out; omega) (by rw [← HVV.out]; exact a8)).trans ((below_alloc (Below.refl _ _) _).block g (blk_lt HBG3.out) |>.trans HBG3.out)
          have hcv := World.ownsRow.cells ho5 (g := g5) (by rw [hv5]; rfl) vs.length (vptr w3.heap.size) (by rw [List.getElem?_append_right (by simp)]; simp)
          rw [addr_add, Nat.zero_add] at hcv
          have hne5 : g5 ≠ g := fun e => own_ne ho5 hg5b (by decide) (by rw [hv5, ← e]; rfl)
          have hb51 := (blk_cell hg5b 1).trans rfl
          rw [HVV.out] at hb51
          have hb5f := blk_frozen hg5b 1
          have hfin := HI2.out.newvar (w3 := w3) (w5 := w5) (vv' := v5) hc hlo HM1.out HM2.out HMC.out HM3.out HG3.out ho5 (by rw [HVV.out]; exact hg5) hb5 (by rw [HVV.out, alloc_size]; exact hat5)
          have HFIN := Aside0.mk hfin
          have pn : ((0 : Int) ≤ (vs.length : Int)) = True := eq_true (by omega)
          have qn : ((vs.length : Int) < (n5 : Int)) = True := eq_true (by omega)
          have b1 : (⟨g5, 0, none⟩ : Addr).add vs.length = ⟨g5, vs.length, none⟩ := addr_add g5 0 _ |>.trans (by rw [Nat.zero_add])
          have HV5 := Aside0.mk hv5
          have HN5 := Aside0.mk hn5
          rw [hv5] at HFIN
          unfold vptr at hcv
          clear hn5 hfin ho5 hb5 hg5 hat5 hg5b h31 h3f hbg0 hbg1 hbg2 hbgf hx
          subst hv5
          go_wp2_with fail
          go_ret2
          obtain ⟨f1, f2, f3⟩ := HFIN.out
          refine ⟨[c], r, A3, c1 - 1, w3.heap.size, _, _, _, _, _, by rw [ifv_var f3]; rfl, rfl, .var c hc hlo .nil, HTR.out, HRD.out, hl3, f1, by rw [f3]; rfl, ?_, ?_⟩
          · exact if_pos rfl
          · exact f2.older (w0 := w) (Nat.le_refl _) (fun _ _ _ _ _ => rfl)
        | some v =>
          obtain ⟨i, hi, rfl, hGi⟩ := HM2.out c v hmc
          have hown := HI.out.own
          obtain ⟨gv, cv, hvv⟩ : ∃ gv cv, vv = .slice (some ⟨gv, 0, none⟩) vs.length cv := by
            rcases hown.2 with ⟨_, h2⟩ | ⟨g', cap, cur, h1, _⟩
            · omega
            · exact ⟨g', cap, h1⟩
          have hcv := World.ownsRow.cells hown (g := gv) (by rw [hvv]; rfl) i (vptr vs[i]) (by rw [List.getElem?_map, List.getElem?_eq_getElem hi]; rfl)
          rw [addr_add, Nat.zero_add] at hcv
          rw [hvv] at hbg1
          have HMC := Aside0.mk hmc
          have HGI := Aside0.mk hGi
          have pi : ((0 : Int) ≤ (i : Int)) = True := eq_true (by omega)
          have qi : ((i : Int) < (vs.length : Int)) = True := eq_true (by omega)
          have a1 : (⟨gv, 0, none⟩ : Addr).add i = ⟨gv, i, none⟩ := addr_add gv 0 i |>.trans (by rw [Nat.zero_add])
          unfold vptr at hcv
          clear hown hmc hGi hvv
          go_enter Tryd.func61, Tryd.ntmps61
          go_wp2_with fail
          go_quiet (fail)
          go_wp2_with (first | (at_lookup; refine wpList_lookup_hit rfl _ _ 64 3 rfl Tryd.underlying64 (hzr _) B vs.length mm rfl (HM.out.step rfl) c rfl hwf (.int .i64 (i : Nat)) HMC.out ?_))
          go_ret2
          have hb := pw_below_drewN (Below.refl w.heap.size w) 1
          refine ⟨[c], r, A3, c1 - 1, vs[i], G, KR, fl, vs, vv, by rw [ifv_var HGI.out]; rfl, rfl, .var c hc hlo .nil, HTR.out, HRD.out, hl3, HI.out.below (drewN_below w _), by rw [HGI.out]; rfl, ?_, ?_⟩
          · rw [HI.out.flat.var _ _ HGI.out]
            congr 1
            omega
          · exact ((LayX.refl g B w G KR fl vs vv).newer (w2 := w.drewN _) (Nat.le_refl _) (fun _ _ _ _ _ => rfl)).mono (fun x hx => by cases hx)
      · have hc1 : c < l0.length := by cases ht <;> omega
        have htr : Terms l0 (m + ari l0 c) r := by
          cases ht with
          | var _ h1 _ _ => omega
          | app _ _ _ h => exact h
        obtain ⟨hA, hA8⟩ := ari_eq har (c := c) (by omega) hc1
        obtain ⟨ad0, e, hs0, hs1⟩ := at_T85 HR0.out c (by omega) (by omega)
        subst e
        have hs1' : ∀ q o, ((w.drewN q).alloc o).cell? ⟨(ad0.add (c.toNat * 2)).block, (ad0.add (c.toNat * 2)).off + 1, none⟩ = _ := fun q o => cell_later' (below_alloc (pw_below_drewN hI.bel q) o) hs1
        have q0 : ∀ q o, ((w.drewN q).alloc o).cell? ⟨g, 0, none⟩ = some (.slice (some ad0) l0.length c0) := fun q o => (blk_cell (blk_alloc (blk_drewN hI.bg q) o) 0).trans rfl
        rw [hA] at hs1'
        have HTR := Aside0.mk htr
        have pc : ((0 : Int) ≤ c) = True := eq_true (by omega)
        have qc : (c < (l0.length : Int)) = True := eq_true (by omega)
        obtain ⟨n, hn⟩ : ∃ n, n = ari l0 c := ⟨_, rfl⟩
        rw [← hn] at hs1' hA8
        have HN := Aside0.mk hn
        have hbelw := HI.out.bel.size
        have hglt := HI.out.lt.2.2.1
        have R0 : ∀ q, LayI l0 (some ad0) c0 g B w0 G KR fl vs vv ((w.drewN q).alloc (.cells #[.int .i64 c, .slice none 0 0, .nilIface, .int .i64 0] 107)) ∧ LayX g B w ((w.drewN q).alloc (.cells #[.int .i64 c, .slice none 0 0, .nilIface, .int .i64 0] 107)) G G KR KR fl fl vs vs vv vv [] ∧ ((w.drewN q).alloc (.cells #[.int .i64 c, .slice none 0 0, .nilIface, .int .i64 0] 107)).heap[w.heap.size]? = some (.cells #[.int .i64 c, .slice none 0 0, .nilIface, .int .i64 0] 107 (0, 0)) := fun q =>
          ⟨HI.out.below (below_alloc (drewN_below w q) _), (LayX.refl g B w G KR fl vs vv).newer (w2 := (w.drewN q).alloc _) (by rw [alloc_size]; exact Nat.le_succ _) (fun k hk _ _ _ => (below_alloc (Below.refl (w.drewN q).heap.size _) _).block k hk), blk_new (w.drewN q) _⟩
        have HR := Aside0.mk R0
        clear hC hrd3 hI ht ih hr0 htr hA hs0 hs1 hn R0
        go_enter Tryd.func61, Tryd.ntmps61
        go_wp2_with fail
        go_quiet (fail)
        go_wp2_with fail
        go_loopg [7, 74] (n + 1) (fun kq v7 v74 wx => ∃ (j : Nat) (tj : List Int) (Aj : Option Addr) (cj : Nat) (G' : UG) (KR' : Nat → Prop) (fl' : Nat → List Int) (vs' : List Nat) (vv' : Value) (ks : List Nat) (kv : Value), v7 = .slice Aj tj.length cj ∧ v74 = .int .i64 j ∧ kq + j = n + 1 ∧ j ≤ n ∧ LayL l0 (some ad0) c0 g B w0 w m n c r G KR fl vs vv j tj Aj cj G' KR' fl' vs' vv' ks kv wx)
        case atStart =>
          obtain ⟨r1, r2, r3⟩ := HR.out nq
          have hGX : G w.heap.size = none := by
            cases hG : G w.heap.size with
            | none => rfl
            | some nd => have := HI.out.lt.1 w.heap.size (by rw [hG]; rfl); omega
          exact ⟨0, r, A3, c1 - 1, G, KR, fl, vs, vv, [], .slice none 0 0, rfl, rfl, by omega, by omega, {
            run := rfl, len := rfl, us := .nil, tt := by rw [Nat.sub_zero, HN.out]; exact HTR.out, rdt := HRD.out, cap := hl3, inv := r1, ext := r2, mem := (fun k hk => by cases hk), new := hGX, blk := r3, own := own_nil _ _ _ _, krk := fun k _ => by simp [Value.ownBlock], kvb := fun k hk => by cases hk }⟩
        case round =>
          obtain ⟨j, tj, Aj, cj, G', KR', fl', vs', vv', ks, kv, rfl, rfl, hkq, hjn, hL⟩ := hrel
          clear HR hs1' q0 hx hbg0 hbg1 hbg2 hbgf hcut
          have hX1 := (blk_cell hL.blk 1).trans rfl
          have HL := Aside0.mk hL
          by_cases hj : j < n
          · obtain ⟨k1, rfl⟩ : ∃ k1, gk = k1 + 1 := ⟨gk - 1, by omega⟩
            have hrl : r.length = (ks.flatMap fl').length + tj.length := by rw [hL.run, List.length_append]
            have ht1 : Terms l0 (m + (n - (j + 1)) + 1) tj := by
              have := hL.tt
              rw [show m + (n - j) = m + (n - (j + 1)) + 1 by omega] at this
              exact this
            have cO := IH.out tj (m + (n - (j + 1))) Aj cj G' KR' fl' vs' vv' wr (by omega) (by omega) ht1 hL.rdt hL.cap hL.inv
            have CO := Aside0.mk cO
            clear cO hL ht1 hX1 hrl
            go_wp2_with fail
            refine CO.out.mono ?_
            rintro e w2 ⟨u, rest, A2, c2, r', G2, KR2, fl2, vs2, vv2, rfl, p1, p2, p3, p4, p5, p6, p7, p8, p9⟩
            obtain ⟨k1', k2, k3, k4⟩ := HL.out.called p6 p9
            have hX1 := (blk_cell k1' 1).trans rfl
            have hXf := blk_frozen k1' 1
            obtain ⟨Tk, hTk⟩ := ifv_form G2 r'
            obtain ⟨Ak, ck, hkv⟩ := own_slice k2
            subst hkv
            have P1 := Aside0.mk p1
            have P2 := Aside0.mk p2
            have P3 := Aside0.mk p3
            have P4 := Aside0.mk p4
            have P6 := Aside0.mk p6
            have P7 := Aside0.mk p7
            have P8 := Aside0.mk p8
            have P9 := Aside0.mk p9
            have K1 := Aside0.mk k1'
            have K2 := Aside0.mk k2
            have HTK := Aside0.mk hTk
            rw [hTk]
            clear p1 p2 p3 p4 p6 p7 p8 p9 k1' k2 k3 k4 CO hTk
            go_wp2_with (first | (at_builtin; refine print_append_cells (w0 := w0) w0.heap.size rfl _ _ 105 69 .nilIface 1 16 rfl Tryd.underlying105 info69 rfl (by decide) (by decide) (.slice Ak j ck) j (ks.map (ifv G2)) [.iface Tk (.pointer (some ⟨r', 0, none⟩))] rfl rfl rfl ?d1 ?d2 ?d3 ?d4 ?d5 ?_))
            case d1 => intro u hu; rw [List.mem_singleton.1 hu]; rfl
            case d2 => exact K2.out
            case d3 => exact P6.out.bel
            case d4 => exact P6.out.bel.size
            case d5 => omega
            intro kv2 w3 ho3 hb3 hg3 hat3
            obtain ⟨A4, n4, c4, hv4⟩ : ∃ A n c, kv2 = .slice A n c := by
              obtain ⟨A, c, e⟩ := own_slice ho3
              exact ⟨A, _, c, e⟩
            subst hv4
            have hX3 := (hg3.block _ (blk_lt K1.out) (own_ne K2.out K1.out (by decide))).trans K1.out
            have hX31 := (blk_cell hX3 1).trans rfl
            have hX3f := blk_frozen hX3 1
            rw [← HTK.out] at ho3
            have hnx := HL.out.next hj P1.out P2.out P3.out P4.out p5 P6.out P7.out P8.out P9.out ho3 hb3 hg3 hat3 hbelw
            have HNX := Aside0.mk hnx
            clear ho3 hb3 hg3 hat3 hX3 hnx hX1 hXf
            go_wp2_with fail
            go_roundg k1
            case measure => omega
            case rel => exact ⟨j + 1, rest, A2, c2, G2, KR2, fl2, vs2, vv2, ks ++ [r'], _, rfl, by go_num, by omega, by omega, HNX.out⟩
          · obtain rfl : j = n := by omega
            clear hL hX1
            go_wp2_with fail
            go_ret2
            exact HL.out.fin (by omega) hc1 HN.out hA8 hbelw
end
end Go.Proofs.YtjckddaaeiffpaaDoor.Z
