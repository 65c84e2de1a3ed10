/- Unification, in plain words: substitutions on rows of codes; what making two nodes one comes to. Unification, in plain words: what (unify.one), measure, row come to. Unification, in plain words: what (unify.one) leaves is closed, and it comes to an end. Unification, in plain words: what (unify.row) and (unify.measure) tell of the nodes that were made one. The answer of Unify, in plain words: there is one. -/
import Derived.Test.YtjckddaaeiffpaaDoorZ0
import Derived.Test.YtjckddaaeiffpaaDoorExtMatch
import Derived.Test.YtjckddaaeiffpaaDoorExtTree
import Derived.Test.YtjckddaaeiffpaaDoorPureTerm
import Derived.Test.YtjckddaaeiffpaaDoorUnLay
import Derived.Test.YtjckddaaeiffpaaDoorUnState
namespace Go.Proofs.YtjckddaaeiffpaaDoor.Z
open Go.RowKit Go.Proofs.YtjckddaaeiffpaaDoorW.PrintWords Go.Proofs.YtjckddaaeiffpaaDoorW.PrintLast Go.Proofs.YtjckddaaeiffpaaDoorW.PrintMore
attribute [local go_sem] max2_int min2_int max_two min_two max_three min_three max_four min_four   -- for this text's walks alone
set_option linter.unusedVariables false
set_option linter.unusedSimpArgs false

section
/-! #### Substitutions -/
def app (θ : Int → List Int) (u : List Int) : List Int := u.flatMap (fun c => if c < 0 then θ c else [c])
theorem app_append (θ : Int → List Int) (u v : List Int) : app θ (u ++ v) = app θ u ++ app θ v := by unfold app; rw [List.flatMap_append]
theorem app_nil (θ : Int → List Int) : app θ [] = [] := rfl
theorem app_cons (θ : Int → List Int) (c : Int) (u : List Int) : app θ (c :: u) = (if c < 0 then θ c else [c]) ++ app θ u := by unfold app; rw [List.flatMap_cons]
theorem app_flatMap {α : Type} (θ : Int → List Int) (f : α → List Int) : ∀ ks : List α, app θ (ks.flatMap f) = ks.flatMap (fun k => app θ (f k)) := by
  intro ks
  induction ks with
  | nil => rfl
  | cons k r ih => rw [List.flatMap_cons, app_append, ih, List.flatMap_cons]
theorem app_congr {θ θ' : Int → List Int} : ∀ {u : List Int}, (∀ c, c ∈ u → c < 0 → θ c = θ' c) → app θ u = app θ' u := by
  intro u
  induction u with
  | nil => intro _; rfl
  | cons c r ih =>
    intro h
    rw [app_cons, app_cons, ih (fun x hx => h x (List.mem_cons_of_mem _ hx))]
    by_cases hc : c < 0
    · rw [if_pos hc, if_pos hc, h c List.mem_cons_self hc]
    · rw [if_neg hc, if_neg hc]
theorem app_app (θ σ : Int → List Int) : ∀ u : List Int, app θ (app σ u) = app (fun c => app θ (σ c)) u := by
  intro u
  induction u with
  | nil => rfl
  | cons c r ih =>
    rw [app_cons, app_append, ih, app_cons]
    by_cases hc : c < 0
    · rw [if_pos hc, if_pos hc]
    · rw [if_neg hc, if_neg hc, app_cons, if_neg hc]; rfl
/-- A substitution: terms for variables. -/
def SubOk (sig : List S85) (θ : Int → List Int) : Prop := ∀ c, c < 0 → -1048576 ≤ c → Terms sig 1 (θ c)
theorem terms_app {sig : List S85} {θ : Int → List Int} (hθ : SubOk sig θ) {n : Nat} {u : List Int} (h : Terms sig n u) : Terms sig n (app θ u) := by
  induction h with
  | nil => exact .nil
  | var c h1 h2 ht ih =>
    rw [app_cons, if_pos h1, Nat.add_comm]
    exact (hθ c h1 h2).cat ih
  | app c h1 h2 ht ih =>
    rw [app_cons, if_neg (by omega)]
    exact .app c h1 h2 ih
theorem terms_prefix {sig : List S85} {u v s t : List Int} (hu : Terms sig 1 u) (hv : Terms sig 1 v) (h : u ++ s = v ++ t) : u = v ∧ s = t := by
  have h1 := terms_reach sig u 1 s hu
  have h2 := terms_reach sig v 1 t hv
  rw [h, h2] at h1
  exact List.append_inj h h1.symm
theorem Terms.ne {sig : List S85} {n : Nat} {u : List Int} (h : Terms sig (n + 1) u) : u ≠ [] := by
  rintro rfl
  cases h
theorem Terms.code {sig : List S85} {n : Nat} {u : List Int} (h : Terms sig n u) : ∀ c, c ∈ u → -1048576 ≤ c ∧ c < sig.length := by
  induction h with
  | nil => intro c hc; cases hc
  | var c h1 h2 ht ih =>
    intro x hx
    rcases List.mem_cons.1 hx with rfl | hx
    · omega
    · exact ih x hx
  | app c h1 h2 ht ih =>
    intro x hx
    rcases List.mem_cons.1 hx with rfl | hx
    · omega
    · exact ih x hx
/-- A substitution that makes two rows one. -/
def Unif (sig : List S85) (a b : List Int) (θ : Int → List Int) : Prop := SubOk sig θ ∧ app θ a = app θ b
/-- THE answer: most general, idempotent, variables bound to lower ones. -/
structure NMgu (sig : List S85) (a b : List Int) (σ : Int → List Int) : Prop where
  uni : Unif sig a b σ
  gen : ∀ θ, Unif sig a b θ → ∀ c, c < 0 → -1048576 ≤ c → app θ (σ c) = θ c
  low : ∀ c c', c < 0 → -1048576 ≤ c → σ c = [c'] → c' < 0 → c ≤ c'
theorem app_len {sig : List S85} {θ : Int → List Int} (hθ : SubOk sig θ) : ∀ {u : List Int}, (∀ c, c ∈ u → -1048576 ≤ c) → u.length ≤ (app θ u).length := by
  intro u
  induction u with
  | nil => intro _; exact Nat.le_refl _
  | cons c r ih =>
    intro h
    rw [app_cons, List.length_append, List.length_cons]
    have h1 := ih (fun x hx => h x (List.mem_cons_of_mem _ hx))
    by_cases hc : c < 0
    · rw [if_pos hc]
      have := (hθ c hc (h c List.mem_cons_self)).le
      omega
    · rw [if_neg hc]
      simp only [List.length_cons, List.length_nil]
      omega
/-- Where a row stays as long as it was, each of its variables became one code. -/
theorem app_one {sig : List S85} {θ : Int → List Int} (hθ : SubOk sig θ) : ∀ {u : List Int}, (∀ c, c ∈ u → -1048576 ≤ c) → (app θ u).length ≤ u.length → ∀ c, c ∈ u → c < 0 → (θ c).length = 1 := by
  intro u
  induction u with
  | nil => intro _ _ c hc; cases hc
  | cons x r ih =>
    intro h hl c hc hneg
    have hr := app_len hθ (u := r) (fun y hy => h y (List.mem_cons_of_mem _ hy))
    rw [app_cons, List.length_append, List.length_cons] at hl
    by_cases hx : x < 0
    · rw [if_pos hx] at hl
      have h1 := (hθ x hx (h x List.mem_cons_self)).le
      rcases List.mem_cons.1 hc with rfl | hc
      · omega
      · exact ih (fun y hy => h y (List.mem_cons_of_mem _ hy)) (by omega) c hc hneg
    · rw [if_neg hx] at hl
      simp only [List.length_cons, List.length_nil] at hl
      rcases List.mem_cons.1 hc with rfl | hc
      · omega
      · exact ih (fun y hy => h y (List.mem_cons_of_mem _ hy)) (by omega) c hc hneg
/-- There is one answer. -/
theorem NMgu.one {sig : List S85} {a b : List Int} {σ τ : Int → List Int} (h : NMgu sig a b σ) (k : NMgu sig a b τ) : ∀ c, c < 0 → -1048576 ≤ c → σ c = τ c := by
  intro c hc hlo
  have e1 := h.gen τ k.uni c hc hlo
  have e2 := k.gen σ h.uni c hc hlo
  have t1 := h.uni.1 c hc hlo
  have t2 := k.uni.1 c hc hlo
  have b1 := fun x hx => (t1.code x hx).1
  have b2 := fun x hx => (t2.code x hx).1
  have l1 := app_len k.uni.1 b1
  have l2 := app_len h.uni.1 b2
  rw [e1] at l1
  rw [e2] at l2
  have o1 := app_one k.uni.1 b1 (by rw [e1]; omega)
  -- a variable of σ c stays itself under τ
  have fix : ∀ y, y ∈ σ c → y < 0 → τ y = [y] := by
    intro y hy hneg
    have hylo := b1 y hy
    obtain ⟨z, hz⟩ := List.length_eq_one_iff.1 (o1 y hy hneg)
    have hst : σ y = [y] := by
      -- σ is idempotent
      have e3 := h.gen σ h.uni c hc hlo
      clear e1 e2 l1 l2 o1 hz
      generalize σ c = u at *
      have go : ∀ u : List Int, (∀ x, x ∈ u → -1048576 ≤ x) → app σ u = u → ∀ y, y ∈ u → y < 0 → σ y = [y] := by
        intro u
        induction u with
        | nil => intro _ _ y hy; cases hy
        | cons x r ih =>
          intro hb he y hy hneg
          rw [app_cons] at he
          by_cases hx : x < 0
          · rw [if_pos hx] at he
            have hlen := congrArg List.length he
            rw [List.length_append, List.length_cons] at hlen
            have h5 := (h.uni.1 x hx (hb x List.mem_cons_self)).le
            have h6 := app_len h.uni.1 (u := r) (fun y hy => hb y (List.mem_cons_of_mem _ hy))
            obtain ⟨w, hw⟩ := List.length_eq_one_iff.1 (show (σ x).length = 1 by omega)
            rw [hw] at he
            obtain ⟨rfl, he2⟩ := List.cons.inj he
            rcases List.mem_cons.1 hy with rfl | hy
            · exact hw
            · exact ih (fun y hy => hb y (List.mem_cons_of_mem _ hy)) he2 y hy hneg
          · rw [if_neg hx] at he
            obtain ⟨_, he2⟩ := List.cons.inj he
            rcases List.mem_cons.1 hy with rfl | hy
            · omega
            · exact ih (fun y hy => hb y (List.mem_cons_of_mem _ hy)) he2 y hy hneg
      exact go u b1 e3 y hy hneg
    have e4 := k.gen σ h.uni y hneg hylo
    rw [hz, hst, app_cons, app_nil, List.append_nil] at e4
    by_cases hzn : z < 0
    · rw [if_pos hzn] at e4
      have h7 := k.low y z hneg hylo hz hzn
      have h8 := h.low z y hzn (by have := (k.uni.1 y hneg hylo).code z (by rw [hz]; exact List.mem_cons_self); omega) e4 hneg
      have : z = y := by omega
      rw [hz, this]
    · rw [if_neg hzn] at e4
      have := List.cons.inj e4
      omega
  rw [← e1]
  have := app_congr (θ := τ) (θ' := fun c => [c]) (u := σ c) (fun y hy hneg => fix y hy hneg)
  rw [this]
  have idd : ∀ u : List Int, app (fun c => [c]) u = u := by
    intro u
    induction u with
    | nil => rfl
    | cons x r ih => rw [app_cons, ih]; split <;> rfl
  exact (idd _).symm
end
section
theorem abs_mgu {sig : List S85} {a b : List Int} (E : Nat → List Int → Prop) (vb : Int → Nat) (ra rb : Nat) (hdet : ∀ n u v, E n u → E n v → u = v) (hterm : ∀ n u, E n u → Terms sig 1 u)
    (hlo : ∀ c, c ∈ a ++ b → -1048576 ≤ c) (hvar : ∀ c, c ∈ a ++ b → c < 0 → ∃ u, E (vb c) u) (hA : ∀ σ : Int → List Int, (∀ c, c ∈ a ++ b → c < 0 → E (vb c) (σ c)) → E ra (app σ a) ∧ E rb (app σ b)) (hroot : ∀ u v, E ra u → E rb v → u = v)
    (hB : ∀ θ, Unif sig a b θ → ∀ c, c ∈ a ++ b → c < 0 → ∀ u, E (vb c) u → app θ u = θ c) (hN : ∀ c, c ∈ a ++ b → c < 0 → ∀ c', E (vb c) [c'] → c' < 0 → c ≤ c') :
    ∃ σ, NMgu sig a b σ ∧ (∀ c, c ∈ a ++ b → c < 0 → E (vb c) (σ c)) ∧ ∀ c, c ∉ a ++ b → σ c = [c] := by
  have key : ∀ c : Int, ∃ u, (c ∈ a ++ b → c < 0 → E (vb c) u) ∧ (¬ (c ∈ a ++ b ∧ c < 0) → u = [c]) := by
    intro c
    by_cases h : c ∈ a ++ b ∧ c < 0
    · obtain ⟨u, hu⟩ := hvar c h.1 h.2
      exact ⟨u, fun _ _ => hu, fun hn => absurd h hn⟩
    · exact ⟨[c], fun h1 h2 => absurd ⟨h1, h2⟩ h, fun _ => rfl⟩
  obtain ⟨σ, hσ⟩ := Classical.skolem.1 key
  have h1 : ∀ c, c ∈ a ++ b → c < 0 → E (vb c) (σ c) := fun c => (hσ c).1
  have h2 : ∀ c, c ∉ a ++ b → σ c = [c] := fun c hc => (hσ c).2 (fun h => hc h.1)
  obtain ⟨ha, hb⟩ := hA σ h1
  refine ⟨σ, ⟨⟨fun c hc hl => ?_, hroot _ _ ha hb⟩, fun θ hθ c hc hl => ?_, fun c c' hc hl he hc' => ?_⟩, h1, h2⟩
  · by_cases hm : c ∈ a ++ b
    · exact hterm _ _ (h1 c hm hc)
    · rw [h2 c hm]; exact .var c hc hl .nil
  · by_cases hm : c ∈ a ++ b
    · exact hB θ hθ c hm hc _ (h1 c hm hc)
    · rw [h2 c hm, app_cons, if_pos hc, app_nil, List.append_nil]
  · by_cases hm : c ∈ a ++ b
    · exact hN c hm hc c' (by rw [← he]; exact h1 c hm hc) hc'
    · rw [h2 c hm] at he
      have := (List.cons.inj he).1
      omega
/-- Nodes that are laid out. -/
structure Laid (sig : List S85) (G : UG) (fl : Nat → List Int) (N : Nat) : Prop where
  flat : Flat sig G fl
  closed : ∀ b c ks A cap, G b = some (.tree c ks A cap) → ∀ k, k ∈ ks → (G k).isSome
  num : ∀ b n, G b = some (.var n) → 0 ≤ n ∧ n ≤ 1048575
  bnd : ∀ b, (G b).isSome → b < N
section
variable {sig : List S85} {G : UG} {fl : Nat → List Int} {N : Nat}
theorem mem_flatMap_len {f : Nat → List Int} : ∀ {ks : List Nat} {k : Nat}, k ∈ ks → (f k).length ≤ (ks.flatMap f).length := by
  intro ks
  induction ks with
  | nil => intro k h; cases h
  | cons a r ih =>
    intro k h
    rw [List.flatMap_cons, List.length_append]
    rcases List.mem_cons.1 h with rfl | h
    · omega
    · have := ih h; omega
theorem Laid.ind (hL : Laid sig G fl N) {P : Nat → Prop} (hv : ∀ b n, G b = some (.var n) → P b) (ht : ∀ b c ks A cap, G b = some (.tree c ks A cap) → (∀ k, k ∈ ks → (G k).isSome ∧ P k) → P b) : ∀ b, (G b).isSome → P b := by
  have go : ∀ (m b : Nat), (fl b).length ≤ m → (G b).isSome → P b := by
    intro m
    induction m with
    | zero =>
      intro b hb hs
      cases hG : G b with
      | none => rw [hG] at hs; simp at hs
      | some nd => cases nd with
        | var n => exact hv b n hG
        | tree c ks A cap =>
          rw [(hL.flat.tree b c ks A cap hG).1] at hb
          simp at hb
    | succ m ih =>
      intro b hb hs
      cases hG : G b with
      | none => rw [hG] at hs; simp at hs
      | some nd => cases nd with
        | var n => exact hv b n hG
        | tree c ks A cap =>
          refine ht b c ks A cap hG (fun k hk => ⟨hL.closed b c ks A cap hG k hk, ih k ?_ (hL.closed b c ks A cap hG k hk)⟩)
          rw [(hL.flat.tree b c ks A cap hG).1, List.length_cons] at hb
          have := mem_flatMap_len (f := fl) hk
          omega
  exact fun b hs => go _ b (Nat.le_refl _) hs
theorem terms_flatMap {f : Nat → List Int} : ∀ {ks : List Nat}, (∀ k, k ∈ ks → Terms sig 1 (f k)) → Terms sig ks.length (ks.flatMap f) := by
  intro ks
  induction ks with
  | nil => intro _; exact .nil
  | cons a r ih =>
    intro h
    rw [List.flatMap_cons, List.length_cons, Nat.add_comm]
    exact (h a List.mem_cons_self).cat (ih (fun k hk => h k (List.mem_cons_of_mem _ hk)))
/-- What a node is under a substitution. -/
def val (θ : Int → List Int) (fl : Nat → List Int) (b : Nat) : List Int := app θ (fl b)
theorem val_var (hL : Laid sig G fl N) (θ : Int → List Int) {b : Nat} {n : Int} (h : G b = some (.var n)) : val θ fl b = θ (-1 - n) := by
  have hn := (hL.num b n h).1
  unfold val
  rw [hL.flat.var b n h, app_cons, if_pos (by omega), app_nil, List.append_nil]
theorem val_tree (hL : Laid sig G fl N) (θ : Int → List Int) {b : Nat} {c : Int} {ks : List Nat} {A : Option Addr} {cap : Nat} (h : G b = some (.tree c ks A cap)) : val θ fl b = c :: ks.flatMap (val θ fl) := by
  obtain ⟨h1, _, h3, _⟩ := hL.flat.tree b c ks A cap h
  unfold val
  rw [h1, app_cons, if_neg (by omega), app_flatMap]
  rfl
theorem val_terms (hL : Laid sig G fl N) {θ : Int → List Int} (hθ : SubOk sig θ) : ∀ b, (G b).isSome → Terms sig 1 (val θ fl b) := by
  refine hL.ind (fun b n h => ?_) (fun b c ks A cap h hk => ?_)
  · rw [val_var hL θ h]
    have := hL.num b n h
    exact hθ _ (by omega) (by omega)
  · obtain ⟨_, h2, h3, h4⟩ := hL.flat.tree b c ks A cap h
    rw [val_tree hL θ h]
    refine .app c h3 h4 ?_
    rw [Nat.zero_add, ← h2]
    exact terms_flatMap (fun k hk' => (hk k hk').2)
theorem kids_eq {f : Nat → List Int} : ∀ {ks ls : List Nat}, ks.length = ls.length → (∀ k, k ∈ ks → Terms sig 1 (f k)) → (∀ k, k ∈ ls → Terms sig 1 (f k)) → ks.flatMap f = ls.flatMap f → ∀ i (h : i < ks.length) (h' : i < ls.length), f ks[i] = f ls[i] := by
  intro ks
  induction ks with
  | nil => intro ls _ _ _ _ i h; simp at h
  | cons a r ih =>
    intro ls hlen h1 h2 he i h h'
    cases ls with
    | nil => simp at hlen
    | cons b s =>
      rw [List.flatMap_cons, List.flatMap_cons] at he
      obtain ⟨e1, e2⟩ := terms_prefix (h1 a List.mem_cons_self) (h2 b List.mem_cons_self) he
      cases i with
      | zero => exact e1
      | succ i => exact ih (by simpa using hlen) (fun k hk => h1 k (List.mem_cons_of_mem _ hk)) (fun k hk => h2 k (List.mem_cons_of_mem _ hk)) e2 i (by simpa using h) (by simpa using h')
/-! #### Links -/
def InvU (θ : Int → List Int) (fl : Nat → List Int) (is : Nat → Option Nat) : Prop := ∀ b r, is b = some r → val θ fl b = val θ fl r
theorem InvU.root {θ : Int → List Int} {is : Nat → Option Nat} (h : InvU θ fl is) : ∀ {k b r : Nat}, rootF k is b = some r → val θ fl b = val θ fl r := by
  intro k
  induction k with
  | zero => intro b r e; simp [rootF] at e
  | succ k ih =>
    intro b r e
    cases hi : is b with
    | none => rw [rootF_none hi] at e; obtain rfl := Option.some.inj e; rfl
    | some c => rw [rootF_some hi] at e; exact (h b c hi).trans (ih e)
theorem InvU.upd {θ : Int → List Int} {is : Nat → Option Nat} (h : InvU θ fl is) {x y : Nat} (e : val θ fl x = val θ fl y) : InvU θ fl (upd is x y) := by
  intro b r hr
  unfold Z.upd at hr
  split at hr
  · rename_i hb; obtain rfl := Option.some.inj hr; rw [hb]; exact e
  · exact h b r hr
theorem one_sound (hL : Laid sig G fl N) {θ : Int → List Int} (hθ : SubOk sig θ) : ∀ (k : Nat) (is : Nat → Option Nat) (x y : Nat) (is' : Nat → Option Nat) (ok : Bool), InvU θ fl is → (∀ b r, is b = some r → (G r).isSome) → (G x).isSome → (G y).isSome → val θ fl x = val θ fl y → oneF k G is x y = some (is', ok) → ok = true ∧ InvU θ fl is' ∧ ∀ b r, is' b = some r → (G r).isSome := by
  have updIn : ∀ (is : Nat → Option Nat) (x y : Nat), (∀ b r, is b = some r → (G r).isSome) → (G y).isSome → ∀ b r, upd is x y b = some r → (G r).isSome := by
    intro is x y h1 h2 b r hr
    unfold Z.upd at hr
    split at hr
    · obtain rfl := Option.some.inj hr; exact h2
    · exact h1 b r hr
  intro k
  induction k with
  | zero => intro is x y is' ok _ _ _ _ _ h; simp [oneF] at h
  | succ k ih =>
    intro is x y is' ok hI hin hx hy he h
    rw [oneF] at h
    split at h
    case h_2 => simp at h
    rename_i x' y' hx' hy'
    have e' : val θ fl x' = val θ fl y' := by rw [← hI.root hx', ← hI.root hy', he]
    obtain ⟨hxs, _⟩ := root_in hin hx' hx
    obtain ⟨hys, _⟩ := root_in hin hy' hy
    split at h
    · obtain ⟨rfl, rfl⟩ := Prod.mk.inj (Option.some.inj h)
      exact ⟨rfl, hI, hin⟩
    · split at h
      · split at h
        · obtain ⟨rfl, rfl⟩ := Prod.mk.inj (Option.some.inj h)
          exact ⟨rfl, hI.upd e', updIn _ _ _ hin hys⟩
        · obtain ⟨rfl, rfl⟩ := Prod.mk.inj (Option.some.inj h)
          exact ⟨rfl, hI.upd e'.symm, updIn _ _ _ hin hxs⟩
      · obtain ⟨rfl, rfl⟩ := Prod.mk.inj (Option.some.inj h)
        exact ⟨rfl, hI.upd e', updIn _ _ _ hin hys⟩
      · obtain ⟨rfl, rfl⟩ := Prod.mk.inj (Option.some.inj h)
        exact ⟨rfl, hI.upd e'.symm, updIn _ _ _ hin hxs⟩
      · rename_i c ks A1 cap1 d ls A2 cap2 hgx hgy
        have v1 := val_tree hL θ hgx
        have v2 := val_tree hL θ hgy
        rw [v1, v2] at e'
        obtain ⟨hcd, hk⟩ := List.cons.inj e'
        rw [if_pos hcd] at h
        have hlen : ks.length = ls.length := by rw [(hL.flat.tree _ _ _ _ _ hgx).2.1, (hL.flat.tree _ _ _ _ _ hgy).2.1, hcd]
        have pw := kids_eq (sig := sig) hlen (fun k hk => val_terms hL hθ k (hL.closed _ _ _ _ _ hgx k hk)) (fun k hk => val_terms hL hθ k (hL.closed _ _ _ _ _ hgy k hk)) hk
        have hI2 : InvU θ fl (upd is x' y') := hI.upd (by rw [v1, v2, hcd, hk])
        have hin2 := updIn is x' y' hin hys
        have hck := hL.closed _ _ _ _ _ hgx
        have hcl := hL.closed _ _ _ _ _ hgy
        clear v1 v2 hk e' hgx hgy hI hin
        generalize upd is x' y' = is2 at *
        have go : ∀ (ks ls : List Nat) (is2 : Nat → Option Nat), ks.length = ls.length → (∀ k, k ∈ ks → (G k).isSome) → (∀ k, k ∈ ls → (G k).isSome) → (∀ i (h : i < ks.length) (h' : i < ls.length), val θ fl ks[i] = val θ fl ls[i]) → InvU θ fl is2 → (∀ b r, is2 b = some r → (G r).isSome) → kidsF (oneF k G) is2 ks ls = some (is', ok) → ok = true ∧ InvU θ fl is' ∧ ∀ b r, is' b = some r → (G r).isSome := by
          intro ks
          induction ks with
          | nil =>
            intro ls is2 _ _ _ _ h1 h2 h
            rw [kidsF] at h
            obtain ⟨rfl, rfl⟩ := Prod.mk.inj (Option.some.inj h)
            exact ⟨rfl, h1, h2⟩
          | cons a r ihk =>
            intro ls is2 hlen h3 h4 hp h1 h2 h
            cases ls with
            | nil => simp at hlen
            | cons b s =>
              rw [kidsF] at h
              have e0 := hp 0 (by simp) (by simp)
              have hps : ∀ i (h : i < r.length) (h' : i < s.length), val θ fl r[i] = val θ fl s[i] := fun i h h' => hp (i + 1) (by simpa using h) (by simpa using h')
              split at h
              · simp at h
              · rename_i is3 he3
                obtain ⟨_, h5, h6⟩ := ih is2 a b is3 true h1 h2 (h3 a List.mem_cons_self) (h4 b List.mem_cons_self) e0 he3
                exact ihk s is3 (by simpa using hlen) (fun k hk => h3 k (List.mem_cons_of_mem _ hk)) (fun k hk => h4 k (List.mem_cons_of_mem _ hk)) hps h5 h6 h
              · rename_i is3 he3
                have := (ih is2 a b is3 false h1 h2 (h3 a List.mem_cons_self) (h4 b List.mem_cons_self) e0 he3).1
                cases this
        exact go ks ls is2 hlen hck hcl pw hI2 hin2 h
      · simp at h
end
end
section
def Rt (is : Nat → Option Nat) (b r : Nat) : Prop := ∃ k, rootF k is b = some r
theorem rootF_mono {is : Nat → Option Nat} : ∀ {k b r : Nat}, rootF k is b = some r → ∀ j, k ≤ j → rootF j is b = some r := by
  intro k
  induction k with
  | zero => intro b r h; simp [rootF] at h
  | succ k ih =>
    intro b r h j hj
    obtain ⟨j, rfl⟩ : ∃ j', j = j' + 1 := ⟨j - 1, by omega⟩
    cases hi : is b with
    | none => rw [rootF_none hi] at h ⊢; exact h
    | some c => rw [rootF_some hi] at h ⊢; exact ih h j (by omega)
theorem Rt.det {is : Nat → Option Nat} {b r s : Nat} (h : Rt is b r) (k : Rt is b s) : r = s := by
  obtain ⟨k1, h1⟩ := h
  obtain ⟨k2, h2⟩ := k
  have a := rootF_mono h1 (max k1 k2) (by omega)
  have b := rootF_mono h2 (max k1 k2) (by omega)
  rw [a] at b
  exact Option.some.inj b
theorem Rt.self {is : Nat → Option Nat} {b : Nat} (h : is b = none) : Rt is b b := ⟨1, rootF_none h⟩
theorem Rt.step {is : Nat → Option Nat} {b c r : Nat} (h : is b = some c) (k : Rt is c r) : Rt is b r := by
  obtain ⟨k, hk⟩ := k
  exact ⟨k + 1, by rw [rootF_some h]; exact hk⟩
theorem Rt.root {is : Nat → Option Nat} {b r : Nat} (h : Rt is b r) : is r = none := by
  obtain ⟨k, hk⟩ := h
  induction k generalizing b with
  | zero => simp [rootF] at hk
  | succ k ih =>
    cases hi : is b with
    | none => rw [rootF_none hi] at hk; obtain rfl := Option.some.inj hk; exact hi
    | some c => rw [rootF_some hi] at hk; exact ih hk
def Ext (is is' : Nat → Option Nat) : Prop := ∀ b r, is b = some r → is' b = some r
theorem Ext.trans {a b c : Nat → Option Nat} (h : Ext a b) (k : Ext b c) : Ext a c := fun x r e => k x r (h x r e)
theorem Rt.ext {is is' : Nat → Option Nat} (he : Ext is is') {b r s : Nat} (h : Rt is b r) (k : Rt is' r s) : Rt is' b s := by
  obtain ⟨n, hn⟩ := h
  induction n generalizing b with
  | zero => simp [rootF] at hn
  | succ n ih =>
    cases hi : is b with
    | none => rw [rootF_none hi] at hn; obtain rfl := Option.some.inj hn; exact k
    | some c => rw [rootF_some hi] at hn; exact Rt.step (he b c hi) (ih hn)
def Same (is : Nat → Option Nat) (a b : Nat) : Prop := ∃ r, Rt is a r ∧ Rt is b r
theorem Same.symm {is : Nat → Option Nat} {a b : Nat} (h : Same is a b) : Same is b a := by obtain ⟨r, h1, h2⟩ := h; exact ⟨r, h2, h1⟩
theorem Same.trans {is : Nat → Option Nat} {a b c : Nat} (h : Same is a b) (k : Same is b c) : Same is a c := by
  obtain ⟨r, h1, h2⟩ := h
  obtain ⟨s, h3, h4⟩ := k
  obtain rfl := h2.det h3
  exact ⟨r, h1, h4⟩
structure Wf (G : UG) (is : Nat → Option Nat) : Prop where
  isIn : ∀ b r, is b = some r → (G r).isSome
  tot : ∀ b, (G b).isSome → ∃ r, Rt is b r
theorem Wf.root {G : UG} {is : Nat → Option Nat} (h : Wf G is) {b r : Nat} (hr : Rt is b r) (hb : (G b).isSome) : (G r).isSome := by
  obtain ⟨k, hk⟩ := hr
  exact (root_in h.isIn hk hb).1
theorem Same.ext {G : UG} {is is' : Nat → Option Nat} (he : Ext is is') (hw : Wf G is) (hw' : Wf G is') {a b : Nat} (ha : (G a).isSome) (h : Same is a b) : Same is' a b := by
  obtain ⟨r, h1, h2⟩ := h
  obtain ⟨s, hs⟩ := hw'.tot r (hw.root h1 ha)
  exact ⟨s, h1.ext he hs, h2.ext he hs⟩
theorem ext_upd {is : Nat → Option Nat} {x y : Nat} (h : is x = none) : Ext is (upd is x y) := by
  intro b r e
  unfold upd
  rw [if_neg (by rintro rfl; rw [h] at e; cases e)]
  exact e
theorem wf_upd {G : UG} {is : Nat → Option Nat} (hw : Wf G is) {x y : Nat} (hx : is x = none) (hy : is y = none) (hne : x ≠ y) (hyG : (G y).isSome) : Wf G (upd is x y) where
  isIn := fun b r hr => by
    unfold upd at hr
    split at hr
    · obtain rfl := Option.some.inj hr; exact hyG
    · exact hw.isIn b r hr
  tot := fun b hb => by
    obtain ⟨r, hr⟩ := hw.tot b hb
    by_cases e : r = x
    · subst e
      exact ⟨y, hr.ext (ext_upd hx) (Rt.step (if_pos rfl) (Rt.self (by unfold upd; rw [if_neg (fun h => hne h.symm)]; exact hy)))⟩
    · exact ⟨r, hr.ext (ext_upd hx) (Rt.self (by unfold upd; rw [if_neg e]; exact hr.root))⟩
def Pair (is : Nat → Option Nat) (ks ls : List Nat) : Prop := ks.length = ls.length ∧ ∀ i (h : i < ks.length) (h' : i < ls.length), Same is ks[i] ls[i]
theorem Pair.ext {G : UG} {is is' : Nat → Option Nat} (he : Ext is is') (hw : Wf G is) (hw' : Wf G is') {ks ls : List Nat} (hk : ∀ k, k ∈ ks → (G k).isSome) (h : Pair is ks ls) : Pair is' ks ls :=
  ⟨h.1, fun i h1 h2 => (h.2 i h1 h2).ext he hw hw' (hk _ (List.getElem_mem h1))⟩
theorem Pair.trans {is : Nat → Option Nat} {ks ls ms : List Nat} (h : Pair is ks ls) (k : Pair is ls ms) : Pair is ks ms :=
  ⟨h.1.trans k.1, fun i h1 h2 => (h.2 i h1 (by have := h.1; omega)).trans (k.2 i (by have := h.1; omega) h2)⟩
/-- A link that may be. -/
def Good (G : UG) (is : Nat → Option Nat) (p q : Nat) : Prop :=
  (∀ m n, G p = some (.var m) → G q = some (.var n) → n ≤ m) ∧ ∀ c ks A cap, G p = some (.tree c ks A cap) → ∃ ls B cap2, G q = some (.tree c ls B cap2) ∧ Pair is ks ls
def NewOk (G : UG) (is is' : Nat → Option Nat) : Prop := ∀ p q, is p = none → is' p = some q → Good G is' p q
theorem Good.ext {G : UG} {is is' : Nat → Option Nat} (hcl : ∀ b c ks A cap, G b = some (.tree c ks A cap) → ∀ k, k ∈ ks → (G k).isSome) (he : Ext is is') (hw : Wf G is) (hw' : Wf G is') {p q : Nat} (h : Good G is p q) : Good G is' p q :=
  ⟨h.1, fun c ks A cap hp => by
    obtain ⟨ls, B, cap2, h1, h2⟩ := h.2 c ks A cap hp
    exact ⟨ls, B, cap2, h1, h2.ext he hw hw' (hcl p c ks A cap hp)⟩⟩
theorem NewOk.trans {G : UG} {a b c : Nat → Option Nat} (hcl : ∀ b c ks A cap, G b = some (.tree c ks A cap) → ∀ k, k ∈ ks → (G k).isSome) (h1 : NewOk G a b) (h2 : NewOk G b c) (he : Ext b c) (hw : Wf G b) (hw' : Wf G c) : NewOk G a c := by
  intro p q hp hq
  cases hb : b p with
  | none => exact h2 p q hb hq
  | some q' =>
    have := he p q' hb
    rw [hq] at this
    obtain rfl := Option.some.inj this
    exact (h1 p q hp hb).ext hcl he hw hw'
theorem NewOk.refl (G : UG) (is : Nat → Option Nat) : NewOk G is is := fun p q h1 h2 => by rw [h1] at h2; cases h2
section
variable {sig : List S85} {G : UG} {fl : Nat → List Int} {N : Nat}
theorem one_spec (hL : Laid sig G fl N) : ∀ (k : Nat) (is : Nat → Option Nat) (x y : Nat) (is' : Nat → Option Nat), Wf G is → (G x).isSome → (G y).isSome → oneF k G is x y = some (is', true) → Ext is is' ∧ Wf G is' ∧ NewOk G is is' ∧ Same is' x y := by
  intro k
  induction k with
  | zero => intro is x y is' _ _ _ h; simp [oneF] at h
  | succ k ih =>
    intro is x y is' hw hx hy h
    rw [oneF] at h
    split at h
    case h_2 => simp at h
    rename_i x' y' hx' hy'
    obtain ⟨hxs, hxn⟩ := root_in hw.isIn hx' hx
    obtain ⟨hys, hyn⟩ := root_in hw.isIn hy' hy
    have rx : Rt is x x' := ⟨k, hx'⟩
    have ry : Rt is y y' := ⟨k, hy'⟩
    -- a link between roots
    have link : ∀ p q, is p = none → is q = none → p ≠ q → (G q).isSome → (∀ is2, Wf G is2 → Ext (upd is p q) is2 → Good G is2 p q) → (p = x' ∧ q = y' ∨ p = y' ∧ q = x') → Ext is (upd is p q) ∧ Wf G (upd is p q) ∧ NewOk G is (upd is p q) ∧ Same (upd is p q) x y := by
      intro p q hp hq hne hqG hgood hpq
      have w2 := wf_upd hw hp hq hne hqG
      have e2 : Ext is (upd is p q) := ext_upd hp
      refine ⟨e2, w2, fun a b ha hb => ?_, ?_⟩
      · by_cases e : a = p
        · subst e
          have : upd is a q a = some q := if_pos rfl
          rw [this] at hb
          obtain rfl := Option.some.inj hb
          exact hgood _ w2 (fun _ _ h => h)
        · have : upd is p q a = is a := if_neg e
          rw [this, ha] at hb
          cases hb
      · have rp : Rt (upd is p q) p q := Rt.step (if_pos rfl) (Rt.self (by unfold upd; rw [if_neg (fun h => hne h.symm)]; exact hq))
        have rq : Rt (upd is p q) q q := Rt.self (by unfold upd; rw [if_neg (fun h => hne h.symm)]; exact hq)
        rcases hpq with ⟨rfl, rfl⟩ | ⟨rfl, rfl⟩
        · exact ⟨q, rx.ext e2 rp, ry.ext e2 rq⟩
        · exact ⟨q, rx.ext e2 rq, ry.ext e2 rp⟩
    split at h
    · rename_i he
      obtain ⟨rfl, _⟩ := Prod.mk.inj (Option.some.inj h)
      exact ⟨fun _ _ h => h, hw, NewOk.refl _ _, ⟨x', rx, by rw [he]; exact ry⟩⟩
    · rename_i hne
      split at h
      · rename_i m n hgx hgy
        split at h
        · rename_i hmn
          obtain ⟨rfl, _⟩ := Prod.mk.inj (Option.some.inj h)
          exact link x' y' hxn hyn hne hys (fun is2 _ _ => ⟨(fun m' n' h1 h2 => by rw [hgx] at h1; rw [hgy] at h2; cases h1; cases h2; omega), (fun c ks A cap h1 => by rw [hgx] at h1; cases h1)⟩) (.inl ⟨rfl, rfl⟩)
        · rename_i hmn
          obtain ⟨rfl, _⟩ := Prod.mk.inj (Option.some.inj h)
          exact link y' x' hyn hxn (fun e => hne e.symm) hxs (fun is2 _ _ => ⟨(fun m' n' h1 h2 => by rw [hgy] at h1; rw [hgx] at h2; cases h1; cases h2; omega), (fun c ks A cap h1 => by rw [hgy] at h1; cases h1)⟩) (.inr ⟨rfl, rfl⟩)
      · rename_i hgx hgy
        obtain ⟨rfl, _⟩ := Prod.mk.inj (Option.some.inj h)
        exact link x' y' hxn hyn hne hys (fun is2 _ _ => ⟨(fun m' n' h1 h2 => by rw [hgy] at h2; cases h2), (fun c ks A cap h1 => by rw [hgx] at h1; cases h1)⟩) (.inl ⟨rfl, rfl⟩)
      · rename_i hgx hgy
        obtain ⟨rfl, _⟩ := Prod.mk.inj (Option.some.inj h)
        exact link y' x' hyn hxn (fun e => hne e.symm) hxs (fun is2 _ _ => ⟨(fun m' n' h1 h2 => by rw [hgx] at h2; cases h2), (fun c ks A cap h1 => by rw [hgy] at h1; cases h1)⟩) (.inr ⟨rfl, rfl⟩)
      · rename_i c ks A1 cap1 d ls A2 cap2 hgx hgy
        split at h
        · rename_i hcd
          subst hcd
          have w2 := wf_upd hw hxn hyn hne hys
          have e2 : Ext is (upd is x' y') := ext_upd hxn
          have hlen : ks.length = ls.length := by rw [(hL.flat.tree _ _ _ _ _ hgx).2.1, (hL.flat.tree _ _ _ _ _ hgy).2.1]
          have go : ∀ (ks ls : List Nat) (is2 : Nat → Option Nat), ks.length = ls.length → (∀ k, k ∈ ks → (G k).isSome) → (∀ k, k ∈ ls → (G k).isSome) → Wf G is2 → kidsF (oneF k G) is2 ks ls = some (is', true) → Ext is2 is' ∧ Wf G is' ∧ NewOk G is2 is' ∧ Pair is' ks ls := by
            intro ks
            induction ks with
            | nil =>
              intro ls is2 hlen _ _ h1 h
              rw [kidsF] at h
              obtain ⟨rfl, _⟩ := Prod.mk.inj (Option.some.inj h)
              exact ⟨fun _ _ h => h, h1, NewOk.refl _ _, hlen, fun i h => by simp at h⟩
            | cons a r ihk =>
              intro ls is2 hlen h3 h4 h1 h
              cases ls with
              | nil => simp at hlen
              | cons b s =>
                rw [kidsF] at h
                split at h
                · simp at h
                · rename_i is3 he3
                  obtain ⟨a1, a2, a3, a4⟩ := ih is2 a b is3 h1 (h3 a List.mem_cons_self) (h4 b List.mem_cons_self) he3
                  obtain ⟨b1, b2, b3, b4⟩ := ihk s is3 (by simpa using hlen) (fun k hk => h3 k (List.mem_cons_of_mem _ hk)) (fun k hk => h4 k (List.mem_cons_of_mem _ hk)) a2 h
                  refine ⟨a1.trans b1, b2, a3.trans hL.closed b3 b1 a2 b2, hlen, fun i h5 h6 => ?_⟩
                  cases i with
                  | zero => exact a4.ext b1 a2 b2 (h3 a List.mem_cons_self)
                  | succ i => exact b4.2 i (by simpa using h5) (by simpa using h6)
                · cases (Prod.mk.inj (Option.some.inj h)).2
          obtain ⟨b1, b2, b3, b4⟩ := go ks ls _ hlen (hL.closed _ _ _ _ _ hgx) (hL.closed _ _ _ _ _ hgy) w2 h
          refine ⟨e2.trans b1, b2, fun p q hp hq => ?_, ?_⟩
          · by_cases e : p = x'
            · subst e
              have e3 := b1 p y' (if_pos rfl)
              rw [hq] at e3
              obtain rfl := Option.some.inj e3
              exact ⟨(fun m n h1 => by rw [hgx] at h1; cases h1), (fun c' ks' A cap h1 => by rw [hgx] at h1; cases h1; exact ⟨ls, A2, cap2, hgy, b4⟩)⟩
            · exact b3 p q (by unfold upd; rw [if_neg e]; exact hp) hq
          · have rp : Rt (upd is x' y') x' y' := Rt.step (if_pos rfl) (Rt.self (by unfold upd; rw [if_neg (fun h => hne h.symm)]; exact hyn))
            have rq : Rt (upd is x' y') y' y' := Rt.self (by unfold upd; rw [if_neg (fun h => hne h.symm)]; exact hyn)
            exact Same.ext b1 w2 b2 hx ⟨y', rx.ext e2 rp, ry.ext e2 rq⟩
        · cases (Prod.mk.inj (Option.some.inj h)).2
      · simp at h
/-! #### It comes to an end -/
def cnt0 (G : UG) (is : Nat → Option Nat) : Nat → Nat
  | 0 => 0
  | N + 1 => cnt0 G is N + (if (G N).isSome ∧ is N = none then 1 else 0)
theorem cnt0_pos {G : UG} {is : Nat → Option Nat} {x : Nat} (hx : (G x).isSome) (hn : is x = none) : ∀ N, x < N → 0 < cnt0 G is N := by
  intro N
  induction N with
  | zero => intro h; omega
  | succ N ih =>
    intro h
    rw [cnt0]
    by_cases e : x = N
    · subst e; rw [if_pos ⟨hx, hn⟩]; omega
    · have := ih (by omega); omega
theorem cnt0_upd {G : UG} {is : Nat → Option Nat} {x y : Nat} (hx : (G x).isSome) (hn : is x = none) : ∀ N, cnt0 G (upd is x y) N + (if x < N then 1 else 0) = cnt0 G is N := by
  intro N
  induction N with
  | zero => simp [cnt0]
  | succ N ih =>
    rw [cnt0, cnt0]
    by_cases e : x = N
    · subst e
      rw [if_neg (by omega)] at ih
      have : upd is x y x = some y := if_pos rfl
      rw [if_neg (by rw [this]; simp), if_pos (by omega), if_pos ⟨hx, hn⟩]
      omega
    · have : upd is x y N = is N := if_neg (fun h => e h.symm)
      rw [this]
      by_cases h : x < N
      · rw [if_pos h] at ih; rw [if_pos (show x < N + 1 by omega)]; omega
      · rw [if_neg h] at ih; rw [if_neg (show ¬ x < N + 1 by omega)]; omega
theorem one_total (hL : Laid sig G fl N) : ∀ (n : Nat) (is : Nat → Option Nat) (x y : Nat), cnt0 G is N ≤ n → Wf G is → (G x).isSome → (G y).isSome → ∃ is' ok, Ev (fun k => oneF k G is x y) (is', ok) ∧ Wf G is' ∧ cnt0 G is' N ≤ cnt0 G is N := by
  intro n
  induction n with
  | zero =>
    intro is x y hc hw hx hy
    obtain ⟨r, hr⟩ := hw.tot x hx
    have := cnt0_pos (hw.root hr hx) hr.root N (hL.bnd _ (hw.root hr hx))
    omega
  | succ n ih =>
    intro is x y hc hw hx hy
    obtain ⟨x', rx⟩ := hw.tot x hx
    obtain ⟨y', ry⟩ := hw.tot y hy
    have hxs := hw.root rx hx
    have hys := hw.root ry hy
    have hxn := rx.root
    have hyn := ry.root
    obtain ⟨k1, e1⟩ := rx
    obtain ⟨k2, e2⟩ := ry
    have step : ∀ (F : Nat → Option ((Nat → Option Nat) × Bool)) r, Ev F r → (∀ k, rootF k is x = some x' → rootF k is y = some y' → oneF (k + 1) G is x y = F k) → Ev (fun k => oneF k G is x y) r := by
      intro F r hF he
      obtain ⟨K, hK⟩ := hF
      refine ⟨K + k1 + k2 + 1, fun k hk => ?_⟩
      obtain ⟨k, rfl⟩ : ∃ k', k = k' + 1 := ⟨k - 1, by omega⟩
      show oneF (k + 1) G is x y = _
      rw [he k (rootF_mono e1 k (by omega)) (rootF_mono e2 k (by omega))]
      exact hK k (by omega)
    by_cases hne : x' = y'
    · exact ⟨is, true, step (fun _ => some (is, true)) _ (Ev.now _) (fun k h1 h2 => by rw [oneF, h1, h2]; exact if_pos hne), hw, Nat.le_refl _⟩
    · have u1 := cnt0_upd (y := y') hxs hxn N
      have u2 := cnt0_upd (y := x') hys hyn N
      rw [if_pos (hL.bnd _ hxs)] at u1
      rw [if_pos (hL.bnd _ hys)] at u2
      have w1 := wf_upd hw hxn hyn hne hys
      have w2 := wf_upd hw hyn hxn (fun e => hne e.symm) hxs
      cases hgx : G x' with
      | none => rw [hgx] at hxs; simp at hxs
      | some nx => cases hgy : G y' with
        | none => rw [hgy] at hys; simp at hys
        | some ny => cases nx with
          | var m => cases ny with
            | var q =>
              by_cases hmn : m > q
              · exact ⟨_, true, step (fun _ => some (upd is x' y', true)) _ (Ev.now _) (fun k h1 h2 => by rw [oneF, h1, h2]; simp only [if_neg hne, hgx, hgy, if_pos hmn]), w1, by omega⟩
              · exact ⟨_, true, step (fun _ => some (upd is y' x', true)) _ (Ev.now _) (fun k h1 h2 => by rw [oneF, h1, h2]; simp only [if_neg hne, hgx, hgy, if_neg hmn]), w2, by omega⟩
            | tree d ls B cap2 => exact ⟨_, true, step (fun _ => some (upd is x' y', true)) _ (Ev.now _) (fun k h1 h2 => by rw [oneF, h1, h2]; simp only [if_neg hne, hgx, hgy]), w1, by omega⟩
          | tree c ks A cap => cases ny with
            | var q => exact ⟨_, true, step (fun _ => some (upd is y' x', true)) _ (Ev.now _) (fun k h1 h2 => by rw [oneF, h1, h2]; simp only [if_neg hne, hgx, hgy]), w2, by omega⟩
            | tree d ls B cap2 =>
              by_cases hcd : c = d
              · subst hcd
                have hlen : ks.length = ls.length := by rw [(hL.flat.tree _ _ _ _ _ hgx).2.1, (hL.flat.tree _ _ _ _ _ hgy).2.1]
                have go : ∀ (ks ls : List Nat) (is2 : Nat → Option Nat), ks.length = ls.length → (∀ k, k ∈ ks → (G k).isSome) → (∀ k, k ∈ ls → (G k).isSome) → cnt0 G is2 N ≤ n → Wf G is2 → ∃ is' ok, Ev (fun k => kidsF (oneF k G) is2 ks ls) (is', ok) ∧ Wf G is' ∧ cnt0 G is' N ≤ cnt0 G is2 N := by
                  intro ks
                  induction ks with
                  | nil => intro ls is2 _ _ _ _ h1; exact ⟨is2, true, Ev.now _, h1, Nat.le_refl _⟩
                  | cons a r ihk =>
                    intro ls is2 hlen h3 h4 hc h1
                    cases ls with
                    | nil => simp at hlen
                    | cons b s =>
                      obtain ⟨is3, ok3, ⟨K3, h5⟩, h6, h7⟩ := ih is2 a b hc h1 (h3 a List.mem_cons_self) (h4 b List.mem_cons_self)
                      cases ok3 with
                      | false =>
                        refine ⟨is3, false, ⟨K3, fun k hk => ?_⟩, h6, h7⟩
                        show kidsF (oneF k G) is2 (a :: r) (b :: s) = _
                        have h5' : oneF k G is2 a b = _ := h5 k hk
                        rw [kidsF, h5']
                      | true =>
                        obtain ⟨is4, ok4, ⟨K4, h8⟩, h9, h10⟩ := ihk s is3 (by simpa using hlen) (fun k hk => h3 k (List.mem_cons_of_mem _ hk)) (fun k hk => h4 k (List.mem_cons_of_mem _ hk)) (by omega) h6
                        refine ⟨is4, ok4, ⟨K3 + K4, fun k hk => ?_⟩, h9, by omega⟩
                        show kidsF (oneF k G) is2 (a :: r) (b :: s) = _
                        have h5' : oneF k G is2 a b = _ := h5 k (by omega)
                        rw [kidsF, h5']
                        exact h8 k (by omega)
                obtain ⟨is4, ok4, h8, h9, h10⟩ := go ks ls (upd is x' y') hlen (hL.closed _ _ _ _ _ hgx) (hL.closed _ _ _ _ _ hgy) (by omega) w1
                exact ⟨is4, ok4, step _ _ h8 (fun k h1 h2 => by rw [oneF, h1, h2]; simp only [if_neg hne, hgx, hgy, if_true]), h9, by omega⟩
              · exact ⟨is, false, step (fun _ => some (is, false)) _ (Ev.now _) (fun k h1 h2 => by rw [oneF, h1, h2]; simp only [if_neg hne, hgx, hgy, if_neg hcd]), hw, Nat.le_refl _⟩
end
end
section
def EX (G : UG) (is : Nat → Option Nat) (b : Nat) (u : List Int) : Prop := Ev (fun k => rowF k G is b) u
theorem Ev.det {α : Type} {f : Nat → Option α} {a b : α} (h : Ev f a) (k : Ev f b) : a = b := by
  obtain ⟨K, h⟩ := h
  obtain ⟨K', k⟩ := k
  have h1 := h (max K K') (by omega)
  have h2 := k (max K K') (by omega)
  rw [h1] at h2
  exact Option.some.inj h2
section
variable {sig : List S85} {G : UG} {fl : Nat → List Int} {N : Nat} {is : Nat → Option Nat}
theorem EX.root {b r : Nat} (hr : Rt is b r) {u : List Int} : EX G is b u ↔ EX G is r u := by
  obtain ⟨k0, h0⟩ := hr
  have hrn : is r = none := Rt.root ⟨k0, h0⟩
  have same : ∀ k, k0 + 1 < k → rowF k G is b = rowF k G is r := by
    intro k hk
    obtain ⟨k, rfl⟩ : ∃ k', k = k' + 1 := ⟨k - 1, by omega⟩
    obtain ⟨j, rfl⟩ : ∃ j, k = j + 1 := ⟨k - 1, by omega⟩
    rw [rowF, rowF, rootF_mono h0 (j + 1) (by omega), rootF_none hrn]
  constructor
  · rintro ⟨K, h⟩
    exact ⟨K + k0 + 2, fun k hk => by have := h k (by omega); show rowF k G is r = _; rw [← same k (by omega)]; exact this⟩
  · rintro ⟨K, h⟩
    exact ⟨K + k0 + 2, fun k hk => by have := h k (by omega); show rowF k G is b = _; rw [same k (by omega)]; exact this⟩
theorem EX.same {a b : Nat} (h : Same is a b) {u : List Int} : EX G is a u ↔ EX G is b u := by
  obtain ⟨r, h1, h2⟩ := h
  exact (EX.root h1).trans (EX.root h2).symm
theorem EX.var {b : Nat} {n : Int} (hb : G b = some (.var n)) (hn : is b = none) : EX G is b [-1 - n] := by
  refine ⟨2, fun k hk => ?_⟩
  obtain ⟨k, rfl⟩ : ∃ k', k = k' + 1 + 1 := ⟨k - 2, by omega⟩
  show rowF (k + 1 + 1) G is b = _
  rw [rowF, rootF_none hn]
  simp only [hb]
theorem ex_kids : ∀ (ls : List Nat) (us : List (List Int)), ls.length = us.length → (∀ i (h : i < ls.length) (h' : i < us.length), EX G is ls[i] us[i]) → Ev (fun k => rowKids (rowF k G is) ls) us.flatten := by
  intro ls
  induction ls with
  | nil => intro us h _; have := List.eq_nil_of_length_eq_zero h.symm; subst this; exact Ev.now _
  | cons a r ih =>
    intro us h hk
    cases us with
    | nil => simp at h
    | cons u s =>
      obtain ⟨K1, h1⟩ := hk 0 (by simp) (by simp)
      obtain ⟨K2, h2⟩ := ih s (by simpa using h) (fun i h1 h2 => hk (i + 1) (by simpa using h1) (by simpa using h2))
      refine ⟨K1 + K2, fun k hk => ?_⟩
      have e1 : rowF k G is a = some u := h1 k (by omega)
      have e2 : rowKids (rowF k G is) r = some s.flatten := h2 k (by omega)
      show rowKids (rowF k G is) (a :: r) = _
      rw [rowKids, e1]
      simp only [e2]
      rfl
theorem EX.tree {b : Nat} {c : Int} {ks : List Nat} {A : Option Addr} {cap : Nat} (hb : G b = some (.tree c ks A cap)) (hn : is b = none) {us : List (List Int)} (hl : ks.length = us.length) (hk : ∀ i (h : i < ks.length) (h' : i < us.length), EX G is ks[i] us[i]) : EX G is b (c :: us.flatten) := by
  obtain ⟨K, h⟩ := ex_kids ks us hl hk
  refine ⟨K + 2, fun k hk' => ?_⟩
  obtain ⟨k, rfl⟩ : ∃ k', k = k' + 1 + 1 := ⟨k - 2, by omega⟩
  have e : rowKids (rowF (k + 1) G is) ks = some us.flatten := h (k + 1) (by omega)
  show rowF (k + 1 + 1) G is b = _
  rw [rowF, rootF_none hn]
  simp only [hb, e]
theorem row_val (hL : Laid sig G fl N) (hw : Wf G is) {θ : Int → List Int} (hI : InvU θ fl is) : ∀ (k b : Nat) (u : List Int), rowF k G is b = some u → (G b).isSome → app θ u = val θ fl b := by
  intro k
  induction k with
  | zero => intro b u h; simp [rowF] at h
  | succ k ih =>
    intro b u h hb
    rw [rowF] at h
    split at h
    · simp at h
    · rename_i r hr
      rw [hI.root hr]
      obtain ⟨hrs, _⟩ := root_in hw.isIn hr hb
      split at h
      · rename_i n hg
        obtain rfl := Option.some.inj h
        rw [val_var hL θ hg, app_cons, if_pos (by have := (hL.num r n hg).1; omega), app_nil, List.append_nil]
      · rename_i c ks A cap hg
        split at h
        · simp at h
        · rename_i us hus
          obtain rfl := Option.some.inj h
          rw [val_tree hL θ hg, app_cons, if_neg (by have := (hL.flat.tree _ _ _ _ _ hg).2.2.1; omega)]
          have go : ∀ (ks : List Nat) (us : List Int), (∀ k, k ∈ ks → (G k).isSome) → rowKids (rowF k G is) ks = some us → app θ us = ks.flatMap (val θ fl) := by
            intro ks
            induction ks with
            | nil => intro us _ h; rw [rowKids] at h; obtain rfl := Option.some.inj h; rfl
            | cons a s ihk =>
              intro us hk h
              rw [rowKids] at h
              split at h
              · simp at h
              · rename_i u1 h1
                split at h
                · simp at h
                · rename_i u2 h2
                  obtain rfl := Option.some.inj h
                  rw [app_append, ih a u1 h1 (hk a List.mem_cons_self), ihk u2 (fun k hk' => hk k (List.mem_cons_of_mem _ hk')) h2, List.flatMap_cons]
          rw [go ks us (hL.closed _ _ _ _ _ hg) hus]
          rfl
      · simp at h
theorem row_terms (hL : Laid sig G fl N) (hw : Wf G is) : ∀ (k b : Nat) (u : List Int), rowF k G is b = some u → (G b).isSome → Terms sig 1 u := by
  intro k
  induction k with
  | zero => intro b u h; simp [rowF] at h
  | succ k ih =>
    intro b u h hb
    rw [rowF] at h
    split at h
    · simp at h
    · rename_i r hr
      obtain ⟨hrs, _⟩ := root_in hw.isIn hr hb
      split at h
      · rename_i n hg
        obtain rfl := Option.some.inj h
        have := hL.num r n hg
        exact .var _ (by omega) (by omega) .nil
      · rename_i c ks A cap hg
        split at h
        · simp at h
        · rename_i us hus
          obtain rfl := Option.some.inj h
          obtain ⟨_, h2, h3, h4⟩ := hL.flat.tree _ _ _ _ _ hg
          refine .app c h3 h4 ?_
          rw [Nat.zero_add, ← h2]
          have go : ∀ (ks : List Nat) (us : List Int), (∀ k, k ∈ ks → (G k).isSome) → rowKids (rowF k G is) ks = some us → Terms sig ks.length us := by
            intro ks
            induction ks with
            | nil => intro us _ h; rw [rowKids] at h; obtain rfl := Option.some.inj h; exact .nil
            | cons a s ihk =>
              intro us hk h
              rw [rowKids] at h
              split at h
              · simp at h
              · rename_i u1 h1
                split at h
                · simp at h
                · rename_i u2 h2
                  obtain rfl := Option.some.inj h
                  rw [List.length_cons, Nat.add_comm]
                  exact (ih a u1 h1 (hk a List.mem_cons_self)).cat (ihk u2 (fun k hk' => hk k (List.mem_cons_of_mem _ hk')) h2)
          exact go ks us (hL.closed _ _ _ _ _ hg) hus
      · simp at h
/-- The root of a tree is one, with the same kids. -/
theorem root_pair (hL : Laid sig G fl N) (hw : Wf G is) (hN : NewOk G (fun _ => none) is) : ∀ (k b r : Nat), rootF k is b = some r → ∀ c ks A cap, G b = some (.tree c ks A cap) → ∃ ls B cap2, G r = some (.tree c ls B cap2) ∧ Pair is ks ls := by
  intro k
  induction k with
  | zero => intro b r h; simp [rootF] at h
  | succ k ih =>
    intro b r h c ks A cap hb
    cases hi : is b with
    | none =>
      rw [rootF_none hi] at h
      obtain rfl := Option.some.inj h
      exact ⟨ks, A, cap, hb, rfl, fun i h1 h2 => by
        obtain ⟨r, hr⟩ := hw.tot _ (hL.closed _ _ _ _ _ hb _ (List.getElem_mem h1))
        exact ⟨r, hr, hr⟩⟩
    | some q =>
      rw [rootF_some hi] at h
      obtain ⟨ls, B, cap2, h1, h2⟩ := (hN b q rfl hi).2 c ks A cap hb
      obtain ⟨ms, C, cap3, h3, h4⟩ := ih q r h c ls B cap2 h1
      exact ⟨ms, C, cap3, h3, h2.trans h4⟩
theorem root_low (hL : Laid sig G fl N) (hw : Wf G is) (hN : NewOk G (fun _ => none) is) : ∀ (k b r : Nat), rootF k is b = some r → ∀ m n, G b = some (.var m) → G r = some (.var n) → n ≤ m := by
  intro k
  induction k with
  | zero => intro b r h; simp [rootF] at h
  | succ k ih =>
    intro b r h m n hb hr
    cases hi : is b with
    | none =>
      rw [rootF_none hi] at h
      obtain rfl := Option.some.inj h
      rw [hb] at hr
      cases hr
      exact Int.le_refl _
    | some q =>
      rw [rootF_some hi] at h
      cases hq : G q with
      | none => have := hw.isIn b q hi; rw [hq] at this; simp at this
      | some nd => cases nd with
        | var p =>
          have h1 := (hN b q rfl hi).1 m p hb hq
          have h2 := ih q r h p n hq hr
          omega
        | tree c ks A cap =>
          obtain ⟨ls, B, cap2, h1, _⟩ := root_pair hL hw hN k q r h c ks A cap hq
          rw [hr] at h1
          cases h1
/-- The congruence: each node is worth what its row is under the answer. -/
theorem ex_cong (hL : Laid sig G fl N) (hw : Wf G is) (hN : NewOk G (fun _ => none) is) {σ : Int → List Int} (hσ : ∀ b n, G b = some (.var n) → EX G is b (σ (-1 - n))) : ∀ b, (G b).isSome → EX G is b (val σ fl b) := by
  refine hL.ind (fun b n h => ?_) (fun b c ks A cap h hk => ?_)
  · rw [val_var hL σ h]
    exact hσ b n h
  · obtain ⟨r, hr⟩ := hw.tot b (by rw [h]; rfl)
    obtain ⟨k, hk'⟩ := hr
    obtain ⟨ls, B, cap2, h1, h2⟩ := root_pair hL hw hN k b r hk' c ks A cap h
    rw [EX.root ⟨k, hk'⟩, val_tree hL σ h]
    have e : ks.flatMap (val σ fl) = (ks.map (val σ fl)).flatten := by rw [List.flatMap_def]
    rw [e]
    refine EX.tree h1 (Rt.root ⟨k, hk'⟩) (by rw [List.length_map]; exact h2.1.symm) (fun i h3 h4 => ?_)
    rw [List.getElem_map]
    have h5 : i < ks.length := by have := h2.1; omega
    exact (EX.same (h2.2 i h5 h3)).1 (hk _ (List.getElem_mem h5)).2
theorem EX.var_inv (hw : Wf G is) {b : Nat} {u : List Int} (hb : (G b).isSome) (h : EX G is b u) : ∃ r, Rt is b r ∧ ((∃ n, G r = some (.var n) ∧ u = [-1 - n]) ∨ ∃ c ks A cap us, G r = some (.tree c ks A cap) ∧ u = c :: us) := by
  obtain ⟨r, hr⟩ := hw.tot b hb
  refine ⟨r, hr, ?_⟩
  obtain ⟨k, hk⟩ := (EX.root hr).1 h |>.rounds
  cases k with
  | zero => simp [rowF] at hk
  | succ k =>
    change rowF (k + 1) G is r = _ at hk
    rw [rowF] at hk
    split at hk
    · simp at hk
    · rename_i r' hr'
      obtain rfl := Rt.det (Rt.self hr.root) ⟨k, hr'⟩
      split at hk
      · rename_i n hg
        exact .inl ⟨n, hg, (Option.some.inj hk).symm⟩
      · rename_i c ks A cap hg
        split at hk
        · simp at hk
        · rename_i us _
          exact .inr ⟨c, ks, A, cap, us, hg, (Option.some.inj hk).symm⟩
      · simp at hk
/-! #### Sizes -/
def SV (G : UG) (is : Nat → Option Nat) (sz : Nat → Int) : Prop := ∀ r, 0 < sz r → ∃ u, EX G is r u ∧ sz r = min (u.length : Int) 513
theorem meas_row (hL : Laid sig G fl N) (hw : Wf G is) : ∀ (k : Nat) (sz : Nat → Int) (b : Nat) (sz' : Nat → Int) (m : Int), measF k G is sz b = some (sz', m, true) → SV G is sz → (G b).isSome → SV G is sz' ∧ ∃ u, EX G is b u ∧ m = min (u.length : Int) 513 := by
  intro k
  induction k with
  | zero => intro sz b sz' m h; simp [measF] at h
  | succ k ih =>
    intro sz b sz' m h hS hb
    rw [measF] at h
    split at h
    · simp at h
    · rename_i r hr
      have rr : Rt is b r := ⟨k, hr⟩
      split at h
      · rename_i n hg
        simp only [Option.some.injEq, Prod.mk.injEq] at h
        obtain ⟨rfl, rfl, _⟩ := h
        exact ⟨hS, _, (EX.root rr).2 (EX.var hg rr.root), by show (1 : Int) = min ((1 : Nat) : Int) 513; omega⟩
      · rename_i c ks A cap hg
        split at h
        · simp only [Option.some.injEq, Prod.mk.injEq] at h
          obtain ⟨rfl, rfl, hpos⟩ := h
          obtain ⟨u, h1, h2⟩ := hS r (of_decide_eq_true hpos)
          exact ⟨hS, u, (EX.root rr).2 h1, h2⟩
        · have go : ∀ (ks : List Nat) (sz : Nat → Int) (size : Int) (L : Nat), SV G is sz → size = min (L : Int) 513 → (∀ k, k ∈ ks → (G k).isSome) → measKids (measF k G is) sz ks size r = some (sz', m, true) → ∃ (us : List (List Int)) (sz2 : Nat → Int), ks.length = us.length ∧ (∀ i (h : i < ks.length) (h' : i < us.length), EX G is ks[i] us[i]) ∧ m = min ((L + us.flatten.length : Nat) : Int) 513 ∧ sz' = updz sz2 r m ∧ SV G is sz2 := by
            intro ks
            induction ks with
            | nil =>
              intro sz size L h1 h2 _ h
              simp only [measKids, Option.some.injEq, Prod.mk.injEq] at h
              obtain ⟨rfl, rfl, _⟩ := h
              exact ⟨[], sz, rfl, fun i h => by simp at h, by simpa using h2, rfl, h1⟩
            | cons a s ihk =>
              intro sz size L h1 h2 hk h
              rw [measKids] at h
              split at h
              · simp at h
              · rename_i sz1 m1 he
                obtain ⟨h3, u, h4, h5⟩ := ih sz a sz1 m1 he h1 (hk a List.mem_cons_self)
                obtain ⟨us, sz2, h6, h7, h8, h9, h10⟩ := ihk sz1 _ (L + u.length) h3 (by omega) (fun k hk' => hk k (List.mem_cons_of_mem _ hk')) h
                refine ⟨u :: us, sz2, by simp [h6], fun i h11 h12 => ?_, ?_, h9, h10⟩
                · cases i with
                  | zero => exact h4
                  | succ i => exact h7 i (by simpa using h11) (by simpa using h12)
                · rw [h8, List.flatten_cons, List.length_append]
                  congr 1
                  omega
              · simp at h
          have hS2 : SV G is (updz sz r (-1)) := by
            intro q hq
            unfold updz at hq ⊢
            split at hq
            · omega
            · rename_i hne; rw [if_neg hne]; exact hS q hq
          have hck : ∀ k, k ∈ ks → (G k).isSome := hL.closed _ _ _ _ _ hg
          obtain ⟨us, sz2, h6, h7, h8, rfl, h10⟩ := go ks _ 1 1 hS2 (by omega) hck h
          have hE : EX G is r (c :: us.flatten) := EX.tree hg rr.root h6 h7
          refine ⟨fun q hq => ?_, _, (EX.root rr).2 hE, ?_⟩
          · unfold updz at hq ⊢
            by_cases e : q = r
            · rw [if_pos e, e]
              exact ⟨_, hE, by rw [h8, List.length_cons]; congr 1; omega⟩
            · rw [if_neg e] at hq ⊢
              exact h10 q hq
          · rw [h8, List.length_cons]; congr 1; omega
      · simp at h
/-- Where there is a unifier, measuring never fails. -/
theorem meas_ok (hL : Laid sig G fl N) (hw : Wf G is) {θ : Int → List Int} (hI : InvU θ fl is) : ∀ (k : Nat) (sz : Nat → Int) (b : Nat) (sz' : Nat → Int) (m : Int) (ok : Bool), szOk sz → (∀ q, sz q = -1 → (val θ fl b).length < (val θ fl q).length) → (G b).isSome → measF k G is sz b = some (sz', m, ok) → ok = true ∧ ∀ q, sz' q = -1 ↔ sz q = -1 := by
  intro k
  induction k with
  | zero => intro sz b sz' m ok _ _ _ h; simp [measF] at h
  | succ k ih =>
    intro sz b sz' m ok hz hop hb h
    rw [measF] at h
    split at h
    · simp at h
    · rename_i r hr
      obtain ⟨hrs, _⟩ := root_in hw.isIn hr hb
      have hv := hI.root hr
      split at h
      · simp only [Option.some.injEq, Prod.mk.injEq] at h
        obtain ⟨rfl, rfl, rfl⟩ := h
        exact ⟨rfl, fun _ => Iff.rfl⟩
      · rename_i c ks A cap hg
        split at h
        · rename_i hne
          simp only [Option.some.injEq, Prod.mk.injEq] at h
          obtain ⟨rfl, rfl, rfl⟩ := h
          refine ⟨decide_eq_true ?_, fun _ => Iff.rfl⟩
          have h1 := (hz r).1
          apply Classical.byContradiction
          intro hn
          have := hop r (by omega)
          rw [hv] at this
          omega
        · rename_i hne
          have h0 : sz r = 0 := Classical.byContradiction hne
          have vt := val_tree hL θ hg
          have go : ∀ (ks : List Nat) (sz : Nat → Int) (size : Int), szOk sz → 1 ≤ size → size ≤ 513 → (∀ k, k ∈ ks → (G k).isSome ∧ (val θ fl k).length < (val θ fl r).length) → sz r = -1 → (∀ q, sz q = -1 → q = r ∨ (val θ fl r).length < (val θ fl q).length) → measKids (measF k G is) sz ks size r = some (sz', m, ok) → ok = true ∧ ∀ q, sz' q = -1 ↔ (sz q = -1 ∧ q ≠ r) := by
            intro ks
            induction ks with
            | nil =>
              intro sz size h1 h2 h3 _ h5 h6 h
              simp only [measKids, Option.some.injEq, Prod.mk.injEq] at h
              obtain ⟨rfl, rfl, rfl⟩ := h
              refine ⟨rfl, fun q => ?_⟩
              unfold updz
              by_cases e : q = r
              · rw [if_pos e]; exact ⟨fun h => by omega, fun h => absurd e h.2⟩
              · rw [if_neg e]; exact ⟨fun h => ⟨h, e⟩, fun h => h.1⟩
            | cons a s ihk =>
              intro sz size h1 h2 h3 h4 h5 h6 h
              obtain ⟨ha1, ha2⟩ := h4 a List.mem_cons_self
              have hopa : ∀ q, sz q = -1 → (val θ fl a).length < (val θ fl q).length := fun q hq => by
                rcases h6 q hq with rfl | h7
                · exact ha2
                · omega
              rw [measKids] at h
              split at h
              · simp at h
              · rename_i sz1 m1 he
                obtain ⟨_, h8⟩ := ih sz a sz1 m1 true h1 hopa ha1 he
                obtain ⟨h9, h10, h11, h12⟩ := measF_ok G is k sz a sz1 m1 true h1 he
                have := h12 rfl
                obtain ⟨h13, h14⟩ := ihk sz1 _ h9 (by omega) (by omega) (fun k hk => h4 k (List.mem_cons_of_mem _ hk)) ((h8 r).2 h5) (fun q hq => h6 q ((h8 q).1 hq)) h
                exact ⟨h13, fun q => by rw [h14 q, h8 q]⟩
              · rename_i sz1 m1 he
                have := (ih sz a sz1 m1 false h1 hopa ha1 he).1
                cases this
          have hlt : ∀ k, k ∈ ks → (G k).isSome ∧ (val θ fl k).length < (val θ fl r).length := fun k hk => ⟨hL.closed _ _ _ _ _ hg k hk, by
            rw [vt, List.length_cons]
            have := mem_flatMap_len (f := val θ fl) hk
            omega⟩
          obtain ⟨h1, h2⟩ := go ks (updz sz r (-1)) 1 (hz.upd (by omega) (by omega)) (by omega) (by omega) hlt (if_pos rfl) (fun q hq => by
            unfold updz at hq
            by_cases e : q = r
            · exact .inl e
            · rw [if_neg e] at hq
              have := hop q hq
              rw [hv] at this
              exact .inr this) h
          refine ⟨h1, fun q => ?_⟩
          rw [h2 q]
          unfold updz
          by_cases e : q = r
          · rw [if_pos e, e, h0]; exact ⟨fun h => absurd rfl h.2, fun h => by omega⟩
          · rw [if_neg e]; exact ⟨fun h => h.1, fun h => ⟨h, e⟩⟩
      · simp at h
/-! #### Measuring comes to an end -/
def cntz (G : UG) (sz : Nat → Int) : Nat → Nat
  | 0 => 0
  | N + 1 => cntz G sz N + (if (G N).isSome ∧ sz N = 0 then 1 else 0)
theorem cntz_pos {sz : Nat → Int} {x : Nat} (hx : (G x).isSome) (hn : sz x = 0) : ∀ N, x < N → 0 < cntz G sz N := by
  intro N
  induction N with
  | zero => intro h; omega
  | succ N ih =>
    intro h
    rw [cntz]
    by_cases e : x = N
    · subst e; rw [if_pos ⟨hx, hn⟩]; omega
    · have := ih (by omega); omega
theorem cntz_mark {sz : Nat → Int} {x : Nat} {v : Int} (hv : v ≠ 0) (hx : (G x).isSome) (hn : sz x = 0) : ∀ N, cntz G (updz sz x v) N + (if x < N then 1 else 0) = cntz G sz N := by
  intro N
  induction N with
  | zero => simp [cntz]
  | succ N ih =>
    rw [cntz, cntz]
    by_cases e : x = N
    · subst e
      rw [if_neg (by omega)] at ih
      have : updz sz x v x = v := if_pos rfl
      rw [if_neg (by rw [this]; exact fun h => hv h.2), if_pos (show x < x + 1 by omega), if_pos ⟨hx, hn⟩]
      omega
    · have : updz sz x v N = sz N := if_neg (fun h => e h.symm)
      rw [this]
      by_cases h : x < N
      · rw [if_pos h] at ih; rw [if_pos (show x < N + 1 by omega)]; omega
      · rw [if_neg h] at ih; rw [if_neg (show ¬ x < N + 1 by omega)]; omega
theorem cntz_le {sz : Nat → Int} {x : Nat} {v : Int} (hv : v ≠ 0) : ∀ N, cntz G (updz sz x v) N ≤ cntz G sz N := by
  intro N
  induction N with
  | zero => exact Nat.le_refl _
  | succ N ih =>
    rw [cntz, cntz]
    by_cases e : N = x
    · have : updz sz x v N = v := if_pos e
      rw [if_neg (by rw [this]; exact fun h => hv h.2)]
      omega
    · have : updz sz x v N = sz N := if_neg e
      rw [this]
      omega
theorem meas_total (hL : Laid sig G fl N) (hw : Wf G is) : ∀ (n : Nat) (sz : Nat → Int) (b : Nat), cntz G sz N ≤ n → szOk sz → (G b).isSome → ∃ sz' m ok, Ev (fun k => measF k G is sz b) (sz', m, ok) ∧ cntz G sz' N ≤ cntz G sz N := by
  intro n
  induction n with
  | zero =>
    intro sz b hc hz hb
    obtain ⟨r, hr⟩ := hw.tot b hb
    have hrs := hw.root hr hb
    obtain ⟨k0, h0⟩ := hr
    have step : ∀ r', (∀ k, rootF k is b = some r → measF (k + 1) G is sz b = some r') → Ev (fun k => measF k G is sz b) r' := fun r' he => ⟨k0 + 1, fun k hk => by
      obtain ⟨k, rfl⟩ : ∃ k', k = k' + 1 := ⟨k - 1, by omega⟩
      exact he k (rootF_mono h0 k (by omega))⟩
    cases hg : G r with
    | none => rw [hg] at hrs; simp at hrs
    | some nd => cases nd with
      | var q => exact ⟨_, _, _, step (sz, 1, true) (fun k h => by rw [measF, h]; simp only [hg]), Nat.le_refl _⟩
      | tree c ks A cap =>
        by_cases hs : sz r = 0
        · have := cntz_pos (G := G) (by rw [hg]; rfl) hs N (hL.bnd _ (by rw [hg]; rfl))
          omega
        · exact ⟨_, _, _, step (sz, sz r, decide (sz r > 0)) (fun k h => by rw [measF, h]; simp only [hg]; rw [if_pos hs]), Nat.le_refl _⟩
  | succ n ih =>
    intro sz b hc hz hb
    obtain ⟨r, hr⟩ := hw.tot b hb
    have hrs := hw.root hr hb
    obtain ⟨k0, h0⟩ := hr
    have step : ∀ (F : Nat → Option ((Nat → Int) × Int × Bool)) r', Ev F r' → (∀ k, rootF k is b = some r → measF (k + 1) G is sz b = F k) → Ev (fun k => measF k G is sz b) r' := fun F r' hF he => by
      obtain ⟨K, hK⟩ := hF
      refine ⟨K + k0 + 1, fun k hk => ?_⟩
      obtain ⟨k, rfl⟩ : ∃ k', k = k' + 1 := ⟨k - 1, by omega⟩
      show measF (k + 1) G is sz b = _
      rw [he k (rootF_mono h0 k (by omega))]
      exact hK k (by omega)
    cases hg : G r with
    | none => rw [hg] at hrs; simp at hrs
    | some nd => cases nd with
      | var q => exact ⟨_, _, _, step (fun _ => some (sz, 1, true)) _ (Ev.now _) (fun k h => by rw [measF, h]; simp only [hg]), Nat.le_refl _⟩
      | tree c ks A cap =>
        by_cases hs : sz r = 0
        · have h1 := cntz_mark (G := G) (v := -1) (by omega) (by rw [hg]; rfl) hs N
          rw [if_pos (hL.bnd r (by rw [hg]; rfl))] at h1
          have go : ∀ (ks : List Nat) (sz : Nat → Int) (size : Int), cntz G sz N ≤ n → szOk sz → 1 ≤ size → size ≤ 513 → (∀ k, k ∈ ks → (G k).isSome) → ∃ sz' m ok, Ev (fun k => measKids (measF k G is) sz ks size r) (sz', m, ok) ∧ cntz G sz' N ≤ cntz G sz N := by
            intro ks
            induction ks with
            | nil => intro sz size h1 h2 h3 h4 _; exact ⟨_, _, _, Ev.now _, cntz_le (by omega) N⟩
            | cons a s ihk =>
              intro sz size h1 h2 h3 h4 hk
              obtain ⟨sz1, m1, ok1, ⟨K1, h5⟩, h6⟩ := ih sz a h1 h2 (hk a List.mem_cons_self)
              have h5' : ∀ k, K1 ≤ k → measF k G is sz a = some (sz1, m1, ok1) := h5
              obtain ⟨h7, h8, h9, h10⟩ := measF_ok G is K1 sz a sz1 m1 ok1 h2 (h5' K1 (Nat.le_refl _))
              cases ok1 with
              | false =>
                refine ⟨sz1, 0, false, ⟨K1, fun k hk' => ?_⟩, h6⟩
                show measKids (measF k G is) sz (a :: s) size r = _
                rw [measKids, h5' k hk']
              | true =>
                have := h10 rfl
                obtain ⟨sz2, m2, ok2, ⟨K2, h11⟩, h12⟩ := ihk sz1 (min (size + m1) 513) (by omega) h7 (by omega) (by omega) (fun k hk' => hk k (List.mem_cons_of_mem _ hk'))
                refine ⟨sz2, m2, ok2, ⟨K1 + K2, fun k hk' => ?_⟩, by omega⟩
                show measKids (measF k G is) sz (a :: s) size r = _
                rw [measKids, h5' k (by omega)]
                exact h11 k (by omega)
          obtain ⟨sz2, m2, ok2, h2, h3⟩ := go ks (updz sz r (-1)) 1 (by omega) (hz.upd (by omega) (by omega)) (by omega) (by omega) (hL.closed _ _ _ _ _ hg)
          exact ⟨sz2, m2, ok2, step _ _ h2 (fun k h => by rw [measF, h]; simp only [hg]; rw [if_neg (fun h => h hs)]), by omega⟩
        · exact ⟨_, _, _, step (fun _ => some (sz, sz r, decide (sz r > 0))) _ (Ev.now _) (fun k h => by rw [measF, h]; simp only [hg]; rw [if_pos hs]), Nat.le_refl _⟩
end
end
section
def UAns (sig : List S85) (a b : List Int) (l : List S30) (e : Int) : Prop :=
  (e = 60 ∧ l = [] ∧ ¬ ∃ θ, Unif sig a b θ) ∨
  ∃ σ, NMgu sig a b σ ∧ (∀ c, c ∉ a ++ b → σ c = [c]) ∧
    ((e = 2 ∧ l = [] ∧ ∃ c, c ∈ a ++ b ∧ c < 0 ∧ σ c ≠ [c] ∧ 512 < (σ c).length) ∨
     (e = 0 ∧ (∀ c, c ∈ a ++ b → c < 0 → σ c ≠ [c] → (σ c).length ≤ 512) ∧ l.Pairwise (fun x y => x.f0 < y.f0) ∧ ∀ x, x ∈ l ↔ ∃ c, c ∈ a ++ b ∧ c < 0 ∧ σ c ≠ [c] ∧ x = ⟨-1 - c, σ c⟩))
theorem sorted_eq : ∀ {l k : List S30}, l.Pairwise (fun x y => x.f0 < y.f0) → k.Pairwise (fun x y => x.f0 < y.f0) → (∀ x, x ∈ l ↔ x ∈ k) → l = k := by
  intro l
  induction l with
  | nil =>
    intro k _ _ h
    cases k with
    | nil => rfl
    | cons y s => exact absurd ((h y).2 List.mem_cons_self) (by simp)
  | cons x r ih =>
    intro k h1 h2 h
    cases k with
    | nil => exact absurd ((h x).1 List.mem_cons_self) (by simp)
    | cons y s =>
      rw [List.pairwise_cons] at h1 h2
      have e : x = y := by
        rcases List.mem_cons.1 ((h x).1 List.mem_cons_self) with h3 | h3
        · exact h3
        · rcases List.mem_cons.1 ((h y).2 List.mem_cons_self) with h4 | h4
          · exact h4.symm
          · have := h1.1 y h4
            have := h2.1 x h3
            omega
      subst e
      rw [ih h1.2 h2.2 (fun z => ?_)]
      constructor
      · intro hz
        rcases List.mem_cons.1 ((h z).1 (List.mem_cons_of_mem _ hz)) with h3 | h3
        · subst h3; have := h1.1 z hz; omega
        · exact h3
      · intro hz
        rcases List.mem_cons.1 ((h z).2 (List.mem_cons_of_mem _ hz)) with h3 | h3
        · subst h3; have := h2.1 z hz; omega
        · exact h3
theorem UAns.one {sig : List S85} {a b : List Int} (hlo : ∀ c, c ∈ a ++ b → -1048576 ≤ c) {l k : List S30} {e f : Int} (h : UAns sig a b l e) (h' : UAns sig a b k f) : l = k ∧ e = f := by
  rcases h with ⟨rfl, rfl, hn⟩ | ⟨σ, h1, _, h2⟩
  · rcases h' with ⟨rfl, rfl, _⟩ | ⟨τ, k1, _⟩
    · exact ⟨rfl, rfl⟩
    · exact absurd ⟨τ, k1.uni⟩ hn
  · rcases h' with ⟨_, _, hn⟩ | ⟨τ, k1, _, k2⟩
    · exact absurd ⟨σ, h1.uni⟩ hn
    · have same : ∀ c, c ∈ a ++ b → c < 0 → σ c = τ c := fun c hc hneg => h1.one k1 c hneg (hlo c hc)
      rcases h2 with ⟨rfl, rfl, c, hc, hneg, hne, hlen⟩ | ⟨rfl, hs, hp, hm⟩
      · rcases k2 with ⟨rfl, rfl, _⟩ | ⟨_, ks, _⟩
        · exact ⟨rfl, rfl⟩
        · have := ks c hc hneg (by rw [← same c hc hneg]; exact hne)
          rw [← same c hc hneg] at this
          omega
      · rcases k2 with ⟨_, _, c, hc, hneg, hne, hlen⟩ | ⟨rfl, ks, kp, km⟩
        · have := hs c hc hneg (by rw [same c hc hneg]; exact hne)
          rw [same c hc hneg] at this
          omega
        · refine ⟨sorted_eq hp kp (fun x => ?_), rfl⟩
          rw [hm, km]
          constructor
          · rintro ⟨c, hc, hneg, hne, rfl⟩
            exact ⟨c, hc, hneg, by rw [← same c hc hneg]; exact hne, by rw [same c hc hneg]⟩
          · rintro ⟨c, hc, hneg, hne, rfl⟩
            exact ⟨c, hc, hneg, by rw [same c hc hneg]; exact hne, by rw [same c hc hneg]⟩
noncomputable def unifyV (sig : List S85) (a b : List Int) : List S30 × Int := open Classical in if h : ∃ r : List S30 × Int, UAns sig a b r.1 r.2 then h.choose else ([], 0)
theorem unifyV_eq {sig : List S85} {a b : List Int} (hlo : ∀ c, c ∈ a ++ b → -1048576 ≤ c) {l : List S30} {e : Int} (h : UAns sig a b l e) : unifyV sig a b = (l, e) := by
  have hx : ∃ r : List S30 × Int, UAns sig a b r.1 r.2 := ⟨(l, e), h⟩
  unfold unifyV
  rw [dif_pos hx]
  obtain ⟨h1, h2⟩ := hx.choose_spec.one hlo h
  exact Prod.ext h1 h2
/-- With the looks ahead. -/
noncomputable def unifyR (sig : List S85) (a b : List Int) : List S30 × Int := if chk sig a ≠ 0 then ([], chk sig a) else if chk sig b ≠ 0 then ([], chk sig b) else unifyV sig a b
noncomputable def canV (sig : List S85) (a b : List Int) : Bool := open Classical in if chk sig a = 0 ∧ chk sig b = 0 then decide (∃ θ, Unif sig a b θ) else false
theorem canV_yes {sig : List S85} {a b : List Int} (h1 : chk sig a = 0) (h2 : chk sig b = 0) (h : ∃ θ, Unif sig a b θ) : canV sig a b = true := by
  unfold canV
  rw [if_pos ⟨h1, h2⟩]
  exact @decide_eq_true _ (_) h
theorem canV_no {sig : List S85} {a b : List Int} (h : ¬ ∃ θ, Unif sig a b θ) : canV sig a b = false := by
  unfold canV
  split
  · exact @decide_eq_false _ (_) h
  · rfl
theorem UAns.mk {sig : List S85} {a b : List Int} {σ : Int → List Int} (h : NMgu sig a b σ) (ho : ∀ c, c ∉ a ++ b → σ c = [c]) (hs : ∀ c, c ∈ a ++ b → c < 0 → σ c ≠ [c] → (σ c).length ≤ 512) {l ys : List S30} (hp : ys.Perm l) (hle : ys.Pairwise (fun x y => x.f0 ≤ y.f0)) (hnd : (l.map (·.f0)).Nodup) (hm : ∀ x, x ∈ l ↔ ∃ c, c ∈ a ++ b ∧ c < 0 ∧ σ c ≠ [c] ∧ x = ⟨-1 - c, σ c⟩) : UAns sig a b ys 0 := by
  refine .inr ⟨σ, h, ho, .inr ⟨rfl, hs, ?_, fun x => (hp.mem_iff).trans (hm x)⟩⟩
  have h3 : (ys.map (·.f0)).Nodup := (hp.map _).nodup_iff.2 hnd
  have h4 : ys.Pairwise (fun a b => a.f0 ≠ b.f0) := by
    rw [List.Nodup, List.pairwise_map] at h3
    exact h3
  exact (hle.and h4).imp (fun h => by omega)
end
end Go.Proofs.YtjckddaaeiffpaaDoor.Z
