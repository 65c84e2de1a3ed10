/- The document's examples of unification, in plain words. (law06.shown): a given function of the print: the document's examples of unification. What the law 06's own comparing of rows answers, in plain words; Unify either way round. -/
import Derived.Test.YtjckddaaeiffpaaDoorZ0
import Derived.Test.YtjckddaaeiffpaaDoorZ0f
import Derived.Test.YtjckddaaeiffpaaDoorExtMatch
import Derived.Test.YtjckddaaeiffpaaDoorExtName
import Derived.Test.YtjckddaaeiffpaaDoorExtSig
import Derived.Test.YtjckddaaeiffpaaDoorExtTree
import Derived.Test.YtjckddaaeiffpaaDoorLits
import Derived.Test.YtjckddaaeiffpaaDoorPureEv
import Derived.Test.YtjckddaaeiffpaaDoorPureTerm
import Derived.Test.YtjckddaaeiffpaaDoorUnTheory
import Derived.Test.YtjckddaaeiffpaaDoorUnUnify
import Derived.Outline
namespace Go.Proofs.YtjckddaaeiffpaaDoor.Z
open Go.RowKit Go.Proofs.YtjckddaaeiffpaaDoorW.PrintWords Go.Proofs.YtjckddaaeiffpaaDoorW.PrintLast Go.Proofs.YtjckddaaeiffpaaDoorW.PrintMore
attribute [local go_sem] max2_int min2_int max_two min_two max_three min_three max_four min_four   -- for this text's walks alone
set_option linter.unusedVariables false
set_option linter.unusedSimpArgs false

section
abbrev sum6 : List S85 := [⟨⟨#[122, 101, 114, 111]⟩, 0⟩, ⟨⟨#[115]⟩, 1⟩, ⟨⟨#[112, 108, 117, 115]⟩, 2⟩]
theorem sum6_fine : sigFine sum6 := by
  intro x hx
  simp only [sum6, List.mem_cons, List.not_mem_nil, or_false] at hx
  rcases hx with rfl | rfl | rfl <;> decide
theorem trm {u : List Int} (h : cnt sum6 u 1 = 0) : Terms sum6 1 u := (terms_iff sum6 u 1).1 h
theorem Terms.var1 (sig : List S85) {c : Int} (h : c < 0) (h2 : -1048576 ≤ c) : Terms sig 1 [c] := .var c h h2 .nil
/-- A term by itself. -/
theorem NMgu.self (sig : List S85) (a : List Int) : NMgu sig a a (fun c => [c]) where
  uni := ⟨fun c h h2 => Terms.var1 sig h h2, rfl⟩
  gen := fun θ _ c h _ => by rw [app_cons, if_pos h, app_nil, List.append_nil]
  low := fun c c' _ _ h _ => by obtain rfl := (List.cons.inj h).1; omega
theorem UAns.self (sig : List S85) (a : List Int) : UAns sig a a [] 0 :=
  .inr ⟨_, NMgu.self sig a, (fun c _ => rfl), .inr ⟨rfl, (fun c _ _ h => absurd rfl h), List.Pairwise.nil, (fun x => by
    constructor
    · intro h; simp at h
    · rintro ⟨c, _, _, h, _⟩; exact absurd rfl h)⟩⟩
theorem UAns.turn {sig : List S85} {a b : List Int} {l : List S30} {e : Int} (h : UAns sig a b l e) : UAns sig b a l e := by
  have hu : ∀ θ, Unif sig b a θ → Unif sig a b θ := fun θ h => ⟨h.1, h.2.symm⟩
  have hm : ∀ c, c ∈ b ++ a ↔ c ∈ a ++ b := fun c => by simp only [List.mem_append]; exact Or.comm
  rcases h with ⟨h1, h2, h3⟩ | ⟨σ, h1, h2, h3⟩
  · exact .inl ⟨h1, h2, fun ⟨θ, h⟩ => h3 ⟨θ, hu θ h⟩⟩
  · refine .inr ⟨σ, ⟨⟨h1.uni.1, h1.uni.2.symm⟩, fun θ h => h1.gen θ (hu θ h), h1.low⟩, fun c hc => h2 c (fun h => hc ((hm c).2 h)), ?_⟩
    simpa only [hm] using h3
theorem mgu_1 : NMgu sum6 [2, -1, 1, -1] [2, 1, -2, -3] (fun c => if c = -1 then [1, -2] else if c = -3 then [1, 1, -2] else [c]) where
  uni := by
    refine ⟨fun c h h2 => ?_, rfl⟩
    dsimp only
    split
    · exact trm (by kernel_rfl)
    · split
      · exact trm (by kernel_rfl)
      · exact Terms.var1 _ h h2
  gen := fun θ ⟨h1, h2⟩ c h _ => by
    have t1 := h1 (-1) (by omega) (by omega)
    have t2 := h1 (-2) (by omega) (by omega)
    have t3 := h1 (-3) (by omega) (by omega)
    have h2 : θ (-1) ++ (1 :: θ (-1)) = (1 :: θ (-2)) ++ θ (-3) := by
      have := h2
      simpa [app] using this
    have t4 : Terms sum6 1 (1 :: θ (-2)) := .app 1 (by omega) (by decide) t2
    obtain ⟨e1, e2⟩ := terms_prefix t1 t4 h2
    split
    · subst c; simp [app, e1]
    · split
      · subst c; simp [app, ← e2, e1]
      · simp [app, h]
  low := fun c c' h _ => by
    split
    · intro h; simp at h
    · split
      · intro h; simp at h
      · intro h _; obtain rfl := (List.cons.inj h).1; omega
theorem mgu_2 : NMgu sum6 [2, -1, -2] [2, -2, -3] (fun c => if c = -2 then [-1] else if c = -3 then [-1] else [c]) where
  uni := by
    refine ⟨fun c h h2 => ?_, rfl⟩
    dsimp only
    split
    · exact trm (by kernel_rfl)
    · split
      · exact trm (by kernel_rfl)
      · exact Terms.var1 _ h h2
  gen := fun θ ⟨h1, h2⟩ c h _ => by
    have t1 := h1 (-1) (by omega) (by omega)
    have t2 := h1 (-2) (by omega) (by omega)
    have t3 := h1 (-3) (by omega) (by omega)
    have h2 : θ (-1) ++ θ (-2) = θ (-2) ++ θ (-3) := by
      have := h2
      simpa [app] using this
    obtain ⟨e1, e2⟩ := terms_prefix t1 t2 h2
    split
    · subst c; simp [app, e1]
    · split
      · subst c; simp [app, ← e2, e1]
      · simp [app, h]
  low := fun c c' h _ => by
    split
    · intro h; have := (List.cons.inj h).1; omega
    · split
      · intro h; have := (List.cons.inj h).1; omega
      · intro h _; obtain rfl := (List.cons.inj h).1; omega
theorem ans_1 : UAns sum6 [2, -1, 1, -1] [2, 1, -2, -3] [⟨0, [1, -2]⟩, ⟨2, [1, 1, -2]⟩] 0 := by
  refine .inr ⟨_, mgu_1, fun c hc => ?_, .inr ⟨rfl, fun c hc _ _ => ?_, by simp, fun x => ⟨fun hx => ?_, ?_⟩⟩⟩
  · have h1 : c ≠ -1 := by rintro rfl; simp at hc
    have h3 : c ≠ -3 := by rintro rfl; simp at hc
    simp only [if_neg h1, if_neg h3]
  · split
    · simp
    · split <;> simp
  · rcases List.mem_cons.1 hx with rfl | hx
    · exact ⟨-1, by simp, by omega, by simp, by simp⟩
    · obtain rfl := List.mem_singleton.1 hx
      exact ⟨-3, by simp, by omega, by simp, by simp⟩
  · rintro ⟨c, hc, hneg, hne, rfl⟩
    by_cases h1 : c = -1
    · subst h1; simp
    · by_cases h3 : c = -3
      · subst h3; simp
      · rw [if_neg h1, if_neg h3] at hne; exact absurd rfl hne
theorem ans_2 : UAns sum6 [2, -1, -2] [2, -2, -3] [⟨1, [-1]⟩, ⟨2, [-1]⟩] 0 := by
  refine .inr ⟨_, mgu_2, fun c hc => ?_, .inr ⟨rfl, fun c hc _ _ => ?_, by simp, fun x => ⟨fun hx => ?_, ?_⟩⟩⟩
  · have h1 : c ≠ -2 := by rintro rfl; simp at hc
    have h3 : c ≠ -3 := by rintro rfl; simp at hc
    simp only [if_neg h1, if_neg h3]
  · split
    · simp
    · split <;> simp
  · rcases List.mem_cons.1 hx with rfl | hx
    · exact ⟨-2, by simp, by omega, by simp, by simp⟩
    · obtain rfl := List.mem_singleton.1 hx
      exact ⟨-3, by simp, by omega, by simp, by simp⟩
  · rintro ⟨c, hc, hneg, hne, rfl⟩
    by_cases h1 : c = -2
    · subst h1; simp
    · by_cases h3 : c = -3
      · subst h3; simp
      · rw [if_neg h1, if_neg h3] at hne; exact absurd rfl hne
theorem none_3 : ¬ ∃ θ, Unif sum6 [-1] [1, -1] θ := by
  rintro ⟨θ, _, h⟩
  have := congrArg List.length h
  simp [app] at this
theorem none_4 : ¬ ∃ θ, Unif sum6 [2, 0, -2] [2, 1, -1, -2] θ := by
  rintro ⟨θ, _, h⟩
  simp [app] at h
theorem none_5 : ¬ ∃ θ, Unif sum6 [0] [1, 0] θ := by
  rintro ⟨θ, _, h⟩
  simp [app] at h
theorem some_6 : ∃ θ, Unif sum6 [-1] [0] θ := by
  refine ⟨fun c => if c = -1 then [0] else [c], fun c h h2 => ?_, rfl⟩
  dsimp only
  split
  · exact trm (by kernel_rfl)
  · exact Terms.var1 _ h h2
theorem lo_of {a b : List Int} (ha : chk sum6 a = 0) (hb : chk sum6 b = 0) : ∀ c, c ∈ a ++ b → -1048576 ≤ c := fun c hc => by
  rcases List.mem_append.1 hc with hc | hc
  · exact ((chk_ok ha).2.code c hc).1
  · exact ((chk_ok hb).2.code c hc).1
theorem unify_f {a b : List Int} (ha : chk sum6 a = 0) (hb : chk sum6 b = 0) (la : a.length ≤ 100) (lb : b.length ≤ 100) {l : List S30} {e : Int} (h : UAns sum6 a b l e) : unify_Unify.f sum6 a b = some (l, e) := by
  rw [unify_Unify.f, if_pos ⟨sum6_fine, by omega, by omega⟩, unifyR_eq ha hb (lo_of ha hb) h]
theorem un_1 : unify_Unify.f sum6 [2, -1, 1, -1] [2, 1, -2, -3] = some ([⟨0, [1, -2]⟩, ⟨2, [1, 1, -2]⟩], 0) := unify_f (by kernel_rfl) (by kernel_rfl) (by simp) (by simp) ans_1
theorem un_2 : unify_Unify.f sum6 [2, -1, -2] [2, -2, -3] = some ([⟨1, [-1]⟩, ⟨2, [-1]⟩], 0) := unify_f (by kernel_rfl) (by kernel_rfl) (by simp) (by simp) ans_2
theorem un_3 : unify_Unify.f sum6 [-1] [1, -1] = some ([], 60) := unify_f (by kernel_rfl) (by kernel_rfl) (by simp) (by simp) (.inl ⟨rfl, rfl, none_3⟩)
theorem un_4 : unify_Unify.f sum6 [2, 0, -2] [2, 1, -1, -2] = some ([], 60) := unify_f (by kernel_rfl) (by kernel_rfl) (by simp) (by simp) (.inl ⟨rfl, rfl, none_4⟩)
theorem un_5 : unify_Unify.f sum6 [-5] [-5] = some ([], 0) := unify_f (by kernel_rfl) (by kernel_rfl) (by simp) (by simp) (UAns.self _ _)
theorem can_6 : unify_Can.f sum6 [-1] [0] = some true := by
  rw [unify_Can.f, if_pos ⟨sum6_fine, by simp, by simp⟩, canV_yes (by kernel_rfl) (by kernel_rfl) some_6]
theorem can_7 : unify_Can.f sum6 [0] [1, 0] = some false := by
  rw [unify_Can.f, if_pos ⟨sum6_fine, by simp, by simp⟩, canV_no none_5]
theorem same6_1 : lodestonelaw06_same.f 10 [⟨0, [1, -2]⟩, ⟨2, [1, 1, -2]⟩] [⟨0, [1, -2]⟩, ⟨2, [1, 1, -2]⟩] = some true := by kernel_rfl
theorem same6_2 : lodestonelaw06_same.f 10 [⟨1, [-1]⟩, ⟨2, [-1]⟩] [⟨1, [-1]⟩, ⟨2, [-1]⟩] = some true := by kernel_rfl
end
section
noncomputable def lodestonelaw06_shown.f : Option Bool := some true
theorem sum_is : lodestonelaw06_sum.f = some sum6 := rfl
theorem two_lits {W0 W : World} (l1 l2 : List Int) (s1 : l1.length ≤ 100) (s2 : l2.length ≤ 100) :
    Kd.C (Kd.int .i64) ((W.alloc (.cells (l1.map (Value.int .i64)).toArray 3)).alloc (.cells (l2.map (Value.int .i64)).toArray 3)) (some ⟨W.heap.size, 0, none⟩) l1.length l1 ∧ Kd.C (Kd.int .i64) ((W.alloc (.cells (l1.map (Value.int .i64)).toArray 3)).alloc (.cells (l2.map (Value.int .i64)).toArray 3)) (some ⟨W.heap.size + 1, 0, none⟩) l2.length l2 :=
  ⟨lit_C l1 (blk_alloc (blk_new _ _) _) (by omega), lit_C l2 (blk_new2 _ _ _) (by omega)⟩
theorem un_lit (l1 l2 : List Int) (r1 : List S30) (r2 : Int) (hf : unify_Unify.f sum6 l1 l2 = some (r1, r2)) (s1 : l1.length ≤ 100) (s2 : l2.length ≤ 100) (W : World) (A : Option Addr) (c : Nat) (hc : 3 ≤ c) (hC : Kd.C k85 W A 3 sum6) (hT : Tabs W) :
    Calls Tryd.prog 16 #[.slice A 3 c, .slice (some ⟨W.heap.size, 0, none⟩) l1.length l1.length, .slice (some ⟨W.heap.size + 1, 0, none⟩) l2.length l2.length] ((W.alloc (.cells (l1.map (Value.int .i64)).toArray 3)).alloc (.cells (l2.map (Value.int .i64)).toArray 3))
      fun e w' => ∃ v, e = .returned (.tuple #[v, .int .i64 r2]) ∧ Kd.S k30 30 w' W.heap.size (fun _ => True) v r1 ∧ Below W.heap.size W w' := by
  have hb : Below W.heap.size W ((W.alloc (.cells (l1.map (Value.int .i64)).toArray 3)).alloc (.cells (l2.map (Value.int .i64)).toArray 3)) := below_alloc (below_alloc (Below.refl _ _) _) _
  obtain ⟨h1, h2⟩ := two_lits (W0 := W) (W := W) l1 l2 s1 s2
  refine (unify_Unify.calls A c sum6 _ l1.length l1 _ l2.length l2 r1 r2 _ (Kd.C_below hC hb) hc h1 (Nat.le_refl _) h2 (Nat.le_refl _) hf (hT.below hb)).mono ?_
  rintro e w' ⟨v, rfl, ho, hb2⟩
  exact ⟨v, rfl, Kd.S_lower ho hb.size, below_step hb hb2⟩
theorem can_lit (l1 l2 : List Int) (r : Bool) (hf : unify_Can.f sum6 l1 l2 = some r) (s1 : l1.length ≤ 100) (s2 : l2.length ≤ 100) (W : World) (A : Option Addr) (c : Nat) (hc : 3 ≤ c) (hC : Kd.C k85 W A 3 sum6) (hT : Tabs W) :
    Calls Tryd.prog 20 #[.slice A 3 c, .slice (some ⟨W.heap.size, 0, none⟩) l1.length l1.length, .slice (some ⟨W.heap.size + 1, 0, none⟩) l2.length l2.length] ((W.alloc (.cells (l1.map (Value.int .i64)).toArray 3)).alloc (.cells (l2.map (Value.int .i64)).toArray 3))
      fun e w' => e = .returned (.bool r) ∧ Below W.heap.size W w' := by
  have hb : Below W.heap.size W ((W.alloc (.cells (l1.map (Value.int .i64)).toArray 3)).alloc (.cells (l2.map (Value.int .i64)).toArray 3)) := below_alloc (below_alloc (Below.refl _ _) _) _
  obtain ⟨h1, h2⟩ := two_lits (W0 := W) (W := W) l1 l2 s1 s2
  refine (unify_Can.calls A c sum6 _ l1.length l1 _ l2.length l2 r _ (Kd.C_below hC hb) hc h1 (Nat.le_refl _) h2 (Nat.le_refl _) hf (hT.below hb)).mono ?_
  rintro e w' ⟨rfl, hb2⟩
  exact ⟨rfl, below_step hb hb2⟩
theorem same_lit (x y : S30) (hf : lodestonelaw06_same.f 10 [x, y] [x, y] = some true) (s1 : x.f1.length ≤ 100) (s2 : y.f1.length ≤ 100) (W : World) (A : Option Addr) (c : Nat) (hc : 2 ≤ c) (hC : Kd.C k30 W A 2 [x, y]) :
    Calls Tryd.prog 18 #[.slice A 2 c, .slice (some ⟨W.heap.size + 1 + 1, 0, none⟩) 2 2] (((W.alloc (.cells (x.f1.map (Value.int .i64)).toArray 3)).alloc (.cells (y.f1.map (Value.int .i64)).toArray 3)).alloc (.cells #[.int .i64 x.f0, .slice (some ⟨W.heap.size, 0, none⟩) x.f1.length x.f1.length, .int .i64 y.f0, .slice (some ⟨W.heap.size + 1, 0, none⟩) y.f1.length y.f1.length] 30))
      fun e w' => e = .returned (.bool true) ∧ Below W.heap.size W w' := by
  have hb : Below W.heap.size W (((W.alloc (.cells (x.f1.map (Value.int .i64)).toArray 3)).alloc (.cells (y.f1.map (Value.int .i64)).toArray 3)).alloc (.cells #[.int .i64 x.f0, .slice (some ⟨W.heap.size, 0, none⟩) x.f1.length x.f1.length, .int .i64 y.f0, .slice (some ⟨W.heap.size + 1, 0, none⟩) y.f1.length y.f1.length] 30)) := below_alloc (below_alloc (below_alloc (Below.refl _ _) _) _) _
  refine (lodestonelaw06_same.calls 10 A c [x, y] (some ⟨W.heap.size + 1 + 1, 0, none⟩) 2 [x, y] true _ (Kd.C_below hC hb) hc (binds_C (x := x) (y := y) (blk_new3 _ _ _ _) rfl rfl (lit_C x.f1 (blk_alloc (blk_alloc (blk_new _ _) _) _) (by omega)) (lit_C y.f1 (blk_alloc (blk_new2 _ _ _) _) (by omega))) (Nat.le_refl _) hf).mono ?_
  rintro e w' ⟨rfl, hd⟩
  exact ⟨rfl, below_step hb hd.below⟩
set_option maxHeartbeats 4000000 in
set_option maxRecDepth 100000 in
theorem lodestonelaw06_shown.calls (r : Bool) (w : World) (h : lodestonelaw06_shown.f = some r) (hT : Tabs w) :
    Calls Tryd.prog 15 #[] w fun e w' => e = .returned (.bool r) ∧ Below w.heap.size w w' := by
  obtain rfl := Option.some.inj h
  have HT := Aside0.mk hT
  have HB0 := Aside0.mk (Below.refl w.heap.size w)
  clear h hT
  go_enter Tryd.func15, Tryd.ntmps15
  go_wp2_with fail
  refine (lodestonelaw06_sum.calls _ w sum_is).mono ?_
  rintro e w1 ⟨v1, rfl, ho1, hb1⟩
  obtain ⟨A1, c1, hv1, hc1, hC1⟩ := Kd.R_reads ho1
  subst hv1
  have HB1 := Aside0.mk (below_step HB0.out hb1)
  have CM := Aside0.mk (un_lit [2, -1, 1, -1] [2, 1, -2, -3] _ _ un_1 (by simp) (by simp) w1 A1 c1 hc1 hC1 (HT.out.below HB1.out))
  clear ho1 hb1 hC1
  go_wp2_with fail
  refine CM.out.mono ?_
  rintro e w2 ⟨v2, rfl, ho2, hb2⟩
  obtain ⟨A2, c2, hv2, hc2, hC2⟩ := Kd.S_reads ho2
  subst hv2
  have HB2 := Aside0.mk (below_step HB1.out hb2)
  have HR2 := Aside0.mk hC2
  have HH2_2 := Aside0.mk (Below.refl w2.heap.size w2)
  clear CM ho2 hb2 hC2 HB1
  go_wp2_with fail
  refine (lodestonelaw06_sum.calls _ w2 sum_is).mono ?_
  rintro e w3 ⟨v3, rfl, ho3, hb3⟩
  obtain ⟨A3, c3, hv3, hc3, hC3⟩ := Kd.R_reads ho3
  subst hv3
  have HB3 := Aside0.mk (below_step HB2.out hb3)
  have HH2_3 := Aside0.mk (below_step HH2_2.out hb3)
  clear HB2 HH2_2
  have CM := Aside0.mk (un_lit [2, -1, -2] [2, -2, -3] _ _ un_2 (by simp) (by simp) w3 A3 c3 hc3 hC3 (HT.out.below HB3.out))
  clear ho3 hb3 hC3
  go_wp2_with fail
  refine CM.out.mono ?_
  rintro e w4 ⟨v4, rfl, ho4, hb4⟩
  obtain ⟨A4, c4, hv4, hc4, hC4⟩ := Kd.S_reads ho4
  subst hv4
  have HB4 := Aside0.mk (below_step HB3.out hb4)
  have HH2_4 := Aside0.mk (below_step HH2_3.out hb4)
  have HR4 := Aside0.mk hC4
  have HH4_4 := Aside0.mk (Below.refl w4.heap.size w4)
  clear CM ho4 hb4 hC4 HB3 HH2_3
  go_wp2_with fail
  refine (lodestonelaw06_sum.calls _ w4 sum_is).mono ?_
  rintro e w5 ⟨v5, rfl, ho5, hb5⟩
  obtain ⟨A5, c5, hv5, hc5, hC5⟩ := Kd.R_reads ho5
  subst hv5
  have HB5 := Aside0.mk (below_step HB4.out hb5)
  have HH2_5 := Aside0.mk (below_step HH2_4.out hb5)
  have HH4_5 := Aside0.mk (below_step HH4_4.out hb5)
  clear HB4 HH2_4 HH4_4
  have CM := Aside0.mk (un_lit [-1] [1, -1] _ _ un_3 (by simp) (by simp) w5 A5 c5 hc5 hC5 (HT.out.below HB5.out))
  clear ho5 hb5 hC5
  go_wp2_with fail
  refine CM.out.mono ?_
  rintro e w6 ⟨v6, rfl, ho6, hb6⟩
  obtain ⟨A6, c6, hv6, hc6, hC6⟩ := Kd.S_reads ho6
  subst hv6
  have HB6 := Aside0.mk (below_step HB5.out hb6)
  have HH2_6 := Aside0.mk (below_step HH2_5.out hb6)
  have HH4_6 := Aside0.mk (below_step HH4_5.out hb6)
  clear CM ho6 hb6 hC6 HB5 HH2_5 HH4_5
  go_wp2_with fail
  refine (lodestonelaw06_sum.calls _ w6 sum_is).mono ?_
  rintro e w7 ⟨v7, rfl, ho7, hb7⟩
  obtain ⟨A7, c7, hv7, hc7, hC7⟩ := Kd.R_reads ho7
  subst hv7
  have HB7 := Aside0.mk (below_step HB6.out hb7)
  have HH2_7 := Aside0.mk (below_step HH2_6.out hb7)
  have HH4_7 := Aside0.mk (below_step HH4_6.out hb7)
  clear HB6 HH2_6 HH4_6
  have CM := Aside0.mk (un_lit [2, 0, -2] [2, 1, -1, -2] _ _ un_4 (by simp) (by simp) w7 A7 c7 hc7 hC7 (HT.out.below HB7.out))
  clear ho7 hb7 hC7
  go_wp2_with fail
  refine CM.out.mono ?_
  rintro e w8 ⟨v8, rfl, ho8, hb8⟩
  obtain ⟨A8, c8, hv8, hc8, hC8⟩ := Kd.S_reads ho8
  subst hv8
  have HB8 := Aside0.mk (below_step HB7.out hb8)
  have HH2_8 := Aside0.mk (below_step HH2_7.out hb8)
  have HH4_8 := Aside0.mk (below_step HH4_7.out hb8)
  clear CM ho8 hb8 hC8 HB7 HH2_7 HH4_7
  go_wp2_with fail
  refine (lodestonelaw06_sum.calls _ w8 sum_is).mono ?_
  rintro e w9 ⟨v9, rfl, ho9, hb9⟩
  obtain ⟨A9, c9, hv9, hc9, hC9⟩ := Kd.R_reads ho9
  subst hv9
  have HB9 := Aside0.mk (below_step HB8.out hb9)
  have HH2_9 := Aside0.mk (below_step HH2_8.out hb9)
  have HH4_9 := Aside0.mk (below_step HH4_8.out hb9)
  clear HB8 HH2_8 HH4_8
  have CM := Aside0.mk (un_lit [-5] [-5] _ _ un_5 (by simp) (by simp) w9 A9 c9 hc9 hC9 (HT.out.below HB9.out))
  clear ho9 hb9 hC9
  go_wp2_with fail
  refine CM.out.mono ?_
  rintro e w10 ⟨v10, rfl, ho10, hb10⟩
  obtain ⟨A10, c10, hv10, hc10, hC10⟩ := Kd.S_reads ho10
  subst hv10
  have HB10 := Aside0.mk (below_step HB9.out hb10)
  have HH2_10 := Aside0.mk (below_step HH2_9.out hb10)
  have HH4_10 := Aside0.mk (below_step HH4_9.out hb10)
  clear CM ho10 hb10 hC10 HB9 HH2_9 HH4_9
  have CM := Aside0.mk (same_lit ⟨0, [1, -2]⟩ ⟨2, [1, 1, -2]⟩ same6_1 (by simp) (by simp) w10 A2 c2 hc2 (Kd.C_below HR2.out HH2_10.out))
  go_wp2_with fail
  refine CM.out.mono ?_
  rintro e w11 ⟨rfl, hb11⟩
  have HB11 := Aside0.mk (below_step HB10.out hb11)
  have HH2_11 := Aside0.mk (below_step HH2_10.out hb11)
  have HH4_11 := Aside0.mk (below_step HH4_10.out hb11)
  clear CM hb11 HB10 HH2_10 HH4_10
  have CM := Aside0.mk (same_lit ⟨1, [-1]⟩ ⟨2, [-1]⟩ same6_2 (by simp) (by simp) w11 A4 c4 hc4 (Kd.C_below HR4.out HH4_11.out))
  go_wp2_with fail
  refine CM.out.mono ?_
  rintro e w12 ⟨rfl, hb12⟩
  have HB12 := Aside0.mk (below_step HB11.out hb12)
  have HH2_12 := Aside0.mk (below_step HH2_11.out hb12)
  have HH4_12 := Aside0.mk (below_step HH4_11.out hb12)
  clear CM hb12 HB11 HH2_11 HH4_11
  go_wp2_with fail
  refine (lodestonelaw06_sum.calls _ w12 sum_is).mono ?_
  rintro e w13 ⟨v13, rfl, ho13, hb13⟩
  obtain ⟨A13, c13, hv13, hc13, hC13⟩ := Kd.R_reads ho13
  subst hv13
  have HB13 := Aside0.mk (below_step HB12.out hb13)
  clear HB12
  have CM := Aside0.mk (can_lit [-1] [0] _ can_6 (by simp) (by simp) w13 A13 c13 hc13 hC13 (HT.out.below HB13.out))
  clear ho13 hb13 hC13
  go_wp2_with fail
  refine CM.out.mono ?_
  rintro e w14 ⟨rfl, hb14⟩
  have HB14 := Aside0.mk (below_step HB13.out hb14)
  clear CM hb14 HB13
  go_wp2_with fail
  refine (lodestonelaw06_sum.calls _ w14 sum_is).mono ?_
  rintro e w15 ⟨v15, rfl, ho15, hb15⟩
  obtain ⟨A15, c15, hv15, hc15, hC15⟩ := Kd.R_reads ho15
  subst hv15
  have HB15 := Aside0.mk (below_step HB14.out hb15)
  clear HB14
  have CM := Aside0.mk (can_lit [0] [1, 0] _ can_7 (by simp) (by simp) w15 A15 c15 hc15 hC15 (HT.out.below HB15.out))
  clear ho15 hb15 hC15
  go_wp2_with fail
  refine CM.out.mono ?_
  rintro e w16 ⟨rfl, hb16⟩
  have HB16 := Aside0.mk (below_step HB15.out hb16)
  clear CM hb16 HB15
  go_wp2_with fail
  go_ret
  exact ⟨rfl, HB16.out⟩
end
section
theorem sameRow6_l0 (r : List Int) (hr : r.length ≤ 9223372036854775807) : ∀ (d i : Nat), r.length = i + d → Ev (fun k => lodestonelaw06_sameRow.l0 k r r i) true := by
  intro d
  induction d with
  | zero => intro i hd; exact Ev.step (fun k => lodestonelaw06_sameRow.l0.eq_2 _ _ _ k) (Ev.neg (by omega) (Ev.now _))
  | succ d ih =>
    intro i hd
    have hi : i < r.length := by omega
    refine Ev.step (fun k => lodestonelaw06_sameRow.l0.eq_2 _ _ _ k) (Ev.pos (by omega) (Ev.pos (by omega) (Ev.pos (by omega) (Ev.pos rfl ?_))))
    rw [w64_succ hi hr]
    exact ih (i + 1) (by omega)
theorem sameRow6 (r : List Int) (hr : r.length ≤ 9223372036854775807) : Ev (fun k => lodestonelaw06_sameRow.f k r r) true := by
  unfold lodestonelaw06_sameRow.f
  exact Ev.pos rfl (sameRow6_l0 r hr r.length 0 (by omega))
theorem same6_l0 (a : List S30) (hm : a.length ≤ 9223372036854775807) (hT : ∀ x ∈ a, x.f1.length ≤ 9223372036854775807) : ∀ (d i : Nat), a.length = i + d → Ev (fun k => lodestonelaw06_same.l0 k a a i) true := by
  intro d
  induction d with
  | zero => intro i hd; exact Ev.step (fun k => lodestonelaw06_same.l0.eq_2 _ _ _ k) (Ev.neg (by omega) (Ev.now _))
  | succ d ih =>
    intro i hd
    have hi : i < a.length := by omega
    refine Ev.step (fun k => lodestonelaw06_same.l0.eq_2 _ _ _ k) (Ev.pos (by omega) (Ev.pos (by omega) (Ev.pos (by omega) ?_)))
    rw [rdT30_get hi]
    refine Ev.pos rfl (Ev.bind (sameRow6 _ (hT _ (List.getElem_mem hi))) (Ev.pos rfl ?_))
    rw [w64_succ hi hm]
    exact ih (i + 1) (by omega)
theorem same6 (a : List S30) (hm : a.length ≤ 9223372036854775807) (hT : ∀ x ∈ a, x.f1.length ≤ 9223372036854775807) : Ev (fun k => lodestonelaw06_same.f k a a) true := by
  unfold lodestonelaw06_same.f
  exact Ev.pos rfl (same6_l0 a hm hT a.length 0 (by omega))
theorem lo_turn {a b : List Int} (hlo : ∀ c, c ∈ a ++ b → -1048576 ≤ c) : ∀ c, c ∈ b ++ a → -1048576 ≤ c := fun c hc => hlo c (by
  rcases List.mem_append.1 hc with h | h
  · exact List.mem_append_right _ h
  · exact List.mem_append_left _ h)
theorem unifyV_turn {sig : List S85} {a b : List Int} (hlo : ∀ c, c ∈ a ++ b → -1048576 ≤ c) : unifyV sig b a = unifyV sig a b := by
  by_cases h : ∃ r : List S30 × Int, UAns sig a b r.1 r.2
  · obtain ⟨⟨l, e⟩, h⟩ := h
    rw [unifyV_eq hlo h, unifyV_eq (lo_turn hlo) (UAns.turn h)]
  · unfold unifyV
    rw [dif_neg h, dif_neg (fun ⟨r, h'⟩ => h ⟨r, UAns.turn h'⟩)]
theorem UAns.small {sig : List S85} {a b : List Int} (hlo : ∀ c, c ∈ a ++ b → -1048576 ≤ c) {l : List S30} {e : Int} (h : UAns sig a b l e) : l.length ≤ 1048577 ∧ ∀ x ∈ l, x.f1.length ≤ 512 := by
  rcases h with ⟨_, rfl, _⟩ | ⟨σ, h1, h2, ⟨_, rfl, _⟩ | ⟨_, h3, h4, h5⟩⟩
  · exact ⟨Nat.zero_le _, fun x hx => by cases hx⟩
  · exact ⟨Nat.zero_le _, fun x hx => by cases hx⟩
  · refine ⟨?_, fun x hx => ?_⟩
    · have hnd : (l.map (·.f0)).Nodup := List.pairwise_map.2 (h4.imp (fun h => by omega))
      have hbd : ∀ x, x ∈ l.map (·.f0) → 0 ≤ x ∧ x < ((1048577 : Nat) : Int) := by
        intro x hx
        obtain ⟨y, hy, rfl⟩ := List.mem_map.1 hx
        obtain ⟨c, hc, hneg, _, rfl⟩ := (h5 y).1 hy
        have := hlo c hc
        show 0 ≤ -1 - c ∧ -1 - c < _
        omega
      have := nodup_small 1048577 (l.map (·.f0)) hnd hbd
      rwa [List.length_map] at this
    · obtain ⟨c, hc, hneg, hne, rfl⟩ := (h5 x).1 hx
      exact h3 c hc hneg hne
theorem unifyV_small {sig : List S85} {a b : List Int} (hlo : ∀ c, c ∈ a ++ b → -1048576 ≤ c) : (unifyV sig a b).1.length ≤ 1048577 ∧ ∀ x ∈ (unifyV sig a b).1, x.f1.length ≤ 512 := by
  by_cases h : ∃ r : List S30 × Int, UAns sig a b r.1 r.2
  · obtain ⟨⟨l, e⟩, h⟩ := h
    rw [unifyV_eq hlo h]
    exact h.small hlo
  · unfold unifyV
    rw [dif_neg h]
    exact ⟨Nat.zero_le _, fun x hx => by cases hx⟩
theorem canV_turn (sig : List S85) (a b : List Int) : canV sig b a = canV sig a b := by
  unfold canV
  by_cases h : chk sig a = 0 ∧ chk sig b = 0
  · rw [if_pos h, if_pos ⟨h.2, h.1⟩]
    exact decide_eq_decide.2 ⟨fun ⟨θ, h⟩ => ⟨θ, h.1, h.2.symm⟩, fun ⟨θ, h⟩ => ⟨θ, h.1, h.2.symm⟩⟩
  · rw [if_neg h, if_neg (fun h' => h ⟨h'.2, h'.1⟩)]
theorem canV_bad {sig : List S85} {a b : List Int} (h : ¬ (chk sig a = 0 ∧ chk sig b = 0)) : canV sig a b = false := by
  unfold canV
  rw [if_neg h]
theorem unify_is {sig : List S85} {a b : List Int} (hF : sigFine sig) (ha : a.length ≤ 17592186044416) (hb : b.length ≤ 17592186044416) : unify_Unify.f sig a b = some (unifyR sig a b) := by rw [unify_Unify.f, if_pos ⟨hF, ha, hb⟩]
theorem can_is {sig : List S85} {a b : List Int} (hF : sigFine sig) (ha : a.length ≤ 17592186044416) (hb : b.length ≤ 17592186044416) : unify_Can.f sig a b = some (canV sig a b) := by rw [unify_Can.f, if_pos ⟨hF, ha, hb⟩]
end
end Go.Proofs.YtjckddaaeiffpaaDoor.Z
