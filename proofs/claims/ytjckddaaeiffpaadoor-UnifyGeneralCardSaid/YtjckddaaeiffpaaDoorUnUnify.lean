/- (lodestone/unify.solved): two terms laid out and made one. (unify.Unify), (unify.Can): given functions of the print. -/
import Derived.Test.YtjckddaaeiffpaaDoorZ0
import Derived.Test.YtjckddaaeiffpaaDoorZ1a
import Derived.Test.YtjckddaaeiffpaaDoorExtClone
import Derived.Test.YtjckddaaeiffpaaDoorExtMap
import Derived.Test.YtjckddaaeiffpaaDoorExtMatch
import Derived.Test.YtjckddaaeiffpaaDoorExtName
import Derived.Test.YtjckddaaeiffpaaDoorExtSig
import Derived.Test.YtjckddaaeiffpaaDoorExtSort
import Derived.Test.YtjckddaaeiffpaaDoorExtTree
import Derived.Test.YtjckddaaeiffpaaDoorLits
import Derived.Test.YtjckddaaeiffpaaDoorPureTerm
import Derived.Test.YtjckddaaeiffpaaDoorUnLay
import Derived.Test.YtjckddaaeiffpaaDoorUnState
import Derived.Test.YtjckddaaeiffpaaDoorUnTheory
import Derived.Outline
import Derived.Deep.RegionWith
import Derived.Deep.RegionHeld3
namespace Go.Proofs.YtjckddaaeiffpaaDoor.Z
open Go.RowKit Go.Proofs.YtjckddaaeiffpaaDoorW.PrintWords Go.Proofs.YtjckddaaeiffpaaDoorW.PrintLast Go.Proofs.YtjckddaaeiffpaaDoorW.PrintMore
attribute [local go_sem] max2_int min2_int max_two min_two max_three min_three max_four min_four   -- for this text's walks alone
set_option linter.unusedVariables false
set_option linter.unusedSimpArgs false

section
theorem LayI.laid {l0 : List S85} {A0 : Option Addr} {c0 g B : Nat} {w0 w : World} {G : UG} {KR : Nat → Prop} {fl : Nat → List Int} {vs : List Nat} {vv : Value} (h : LayI l0 A0 c0 g B w0 G KR fl vs vv w) : Laid l0 G fl w.heap.size :=
  ⟨h.flat, h.brd.closed, h.brd.num, h.lt.1⟩
/-- What solved leaves where it succeeds. -/
structure SolvedT (l0 : List S85) (l1 l2 : List Int) (w : World) (g : Nat) (w' : World) (σ : Int → List Int) (G : UG) (is : Nat → Option Nat) (sz : Nat → Int) (fl : Nat → List Int) (N : Nat) (vs : List Nat) (sv mv : Value) (Av : Option Addr) (cv : Nat) : Prop where
  mgu : NMgu l0 l1 l2 σ
  out : ∀ c, c ∉ l1 ++ l2 → σ c = [c]
  brd : UBoard G is sz w'
  laid : Laid l0 G fl N
  wf : Wf G is
  inv : InvU σ fl is
  szok : szOk sz
  sv_ : SV G is sz
  shut : ∀ q, sz q ≠ -1
  bg : w'.heap[g]? = some (.cells #[sv, .slice Av vs.length cv, mv] 66 (0, 0))
  own : w'.ownsRow w.heap.size 67 1 (.slice Av vs.length cv) vs.length (vs.map vptr)
  var : ∀ b, b ∈ vs → ∃ n, G b = some (.var n) ∧ (-1 - n) ∈ l1 ++ l2 ∧ EX G is b (σ (-1 - n)) ∧ (is b = none ↔ σ (-1 - n) = [-1 - n])
  all : ∀ c, c ∈ l1 ++ l2 → c < 0 → ∃ b, b ∈ vs ∧ G b = some (.var (-1 - c))
  nd : (vs.map fun b => fl b).Nodup
  few : vs.length ≤ 1048577
  base : ∀ b, (G b).isSome → w.heap.size ≤ b
/-- The plain half: out of what was laid, linked and measured. -/
theorem solved_plain {l0 : List S85} {l1 l2 : List Int} {G : UG} {is : Nat → Option Nat} {fl : Nat → List Int} {N ra rb : Nat} {vs : List Nat} (hL : Laid l0 G fl N) (hw : Wf G is) (hN : NewOk G (fun _ => none) is) (hra : (G ra).isSome) (hrb : (G rb).isSome) (ha : fl ra = l1) (hb : fl rb = l2) (hsame : Same is ra rb)
    (hall : ∀ c, c ∈ l1 ++ l2 → c < 0 → ∃ b, b ∈ vs ∧ G b = some (.var (-1 - c))) (hvs : ∀ b n, G b = some (.var n) → b ∈ vs ∧ (-1 - n) ∈ l1 ++ l2) (huniq : ∀ b b' n, G b = some (.var n) → G b' = some (.var n) → b = b') (hlo : ∀ c, c ∈ l1 ++ l2 → -1048576 ≤ c)
    (hex : ∀ b, b ∈ vs → ∃ u, EX G is b u) (hsound : ∀ θ, Unif l0 l1 l2 θ → InvU θ fl is) :
    ∃ σ, NMgu l0 l1 l2 σ ∧ (∀ c, c ∉ l1 ++ l2 → σ c = [c]) ∧ ∀ b n, G b = some (.var n) → EX G is b (σ (-1 - n)) ∧ (is b = none ↔ σ (-1 - n) = [-1 - n]) := by
  have key : ∀ c : Int, ∃ b, c ∈ l1 ++ l2 → c < 0 → b ∈ vs ∧ G b = some (.var (-1 - c)) := by
    intro c
    by_cases h : c ∈ l1 ++ l2 ∧ c < 0
    · obtain ⟨b, h1⟩ := hall c h.1 h.2
      exact ⟨b, fun _ _ => h1⟩
    · exact ⟨0, fun h1 h2 => absurd ⟨h1, h2⟩ h⟩
  obtain ⟨vb, hvb⟩ := Classical.skolem.1 key
  have node : ∀ b n, G b = some (.var n) → b = vb (-1 - n) := fun b n h => by
    obtain ⟨_, h1⟩ := hvs b n h
    have hn := (hL.num b n h).1
    have h2 := (hvb (-1 - n) h1 (by omega)).2
    exact huniq b _ n h (by rw [h2]; congr 2; omega)
  obtain ⟨σ, h1, h2, h3⟩ := abs_mgu (sig := l0) (a := l1) (b := l2) (fun b u => (G b).isSome ∧ EX G is b u) vb ra rb (fun n u v h k => Ev.det h.2 k.2) (fun n u h => by
      obtain ⟨k, hk⟩ := h.2.rounds
      exact row_terms hL hw k n u hk h.1) hlo (fun c hc hneg => by
      obtain ⟨u, hu⟩ := hex _ (hvb c hc hneg).1
      exact ⟨u, by rw [(hvb c hc hneg).2]; rfl, hu⟩) (fun σ hσ => by
      have hv : ∀ b n, G b = some (.var n) → EX G is b (σ (-1 - n)) := fun b n h => by
        have hn := (hL.num b n h).1
        have h4 := (hσ (-1 - n) (hvs b n h).2 (by omega)).2
        rw [← node b n h] at h4
        exact h4
      have hc := ex_cong hL hw hN hv
      have h5 := hc ra hra
      have h6 := hc rb hrb
      unfold val at h5 h6
      rw [ha] at h5
      rw [hb] at h6
      exact ⟨⟨hra, h5⟩, hrb, h6⟩) (fun u v h k => Ev.det ((EX.same hsame).1 h.2) k.2) (fun θ hθ c hc hneg u hu => by
      obtain ⟨k, hk⟩ := hu.2.rounds
      have h4 := (hvb c hc hneg).2
      rw [row_val hL hw (hsound θ hθ) k _ u hk hu.1, val_var hL θ h4]
      congr 1
      omega) (fun c hc hneg c' hu hc' => by
      have h4 := (hvb c hc hneg).2
      obtain ⟨r, hr, ⟨n, hg, e⟩ | ⟨d, ks, A, cap, us, hg, e⟩⟩ := EX.var_inv hw hu.1 hu.2
      · obtain ⟨k, hk⟩ := hr
        have h5 := root_low hL hw hN k _ r hk _ n h4 hg
        have := (List.cons.inj e).1
        omega
      · have := (List.cons.inj e).1
        have := (hL.flat.tree _ _ _ _ _ hg).2.2.1
        omega)
  refine ⟨σ, h1, h3, fun b n h => ?_⟩
  have hn := (hL.num b n h).1
  have h4 := (h2 (-1 - n) (hvs b n h).2 (by omega)).2
  rw [← node b n h] at h4
  refine ⟨h4, fun hi => Ev.det h4 (EX.var h hi), fun e => ?_⟩
  rw [e] at h4
  obtain ⟨r, hr, ⟨n', hg, e'⟩ | ⟨d, ks, A, cap, us, hg, e'⟩⟩ := EX.var_inv hw (by rw [h]; rfl) h4
  · have : n' = n := by have := (List.cons.inj e').1; omega
    subst this
    rw [huniq b r n' h hg]
    exact hr.root
  · have := (List.cons.inj e').1
    have := (hL.flat.tree _ _ _ _ _ hg).2.2.1
    omega
/-- Each variable of a node's row has a node. -/
theorem var_node {l0 : List S85} {G : UG} {fl : Nat → List Int} {N : Nat} (hL : Laid l0 G fl N) : ∀ b, (G b).isSome → ∀ c, c ∈ fl b → c < 0 → ∃ b', G b' = some (.var (-1 - c)) := by
  refine hL.ind (fun b n h => ?_) (fun b c ks A cap h hk => ?_)
  · intro c hc _
    rw [hL.flat.var b n h] at hc
    have := List.mem_singleton.1 hc
    exact ⟨b, by rw [h]; congr 2; omega⟩
  · intro x hx hneg
    obtain ⟨h1, _, h3, _⟩ := hL.flat.tree b c ks A cap h
    rw [h1] at hx
    rcases List.mem_cons.1 hx with rfl | hx
    · omega
    · obtain ⟨k, hk1, hk2⟩ := List.mem_flatMap.1 hx
      exact (hk k hk1).2 x hk2 hneg
theorem LayI.init (l0 : List S85) (A0 : Option Addr) (c0 : Nat) (w : World) : LayI l0 A0 c0 (w.heap.size + 1) w.heap.size w (fun _ => none) (fun _ => False) (fun _ => []) [] (.slice none 0 0) ((w.alloc (.map #[] 0)).alloc (.cells #[.slice A0 l0.length c0, .slice none 0 0, .map (some w.heap.size)] 66)) where
  brd := ⟨(fun b n h => by cases h), (fun b c ks A cap h => by cases h), (fun b c ks A cap h => by cases h), (fun b c ks A cap h => by cases h), (fun b r h => by cases h), (fun b n h => by cases h), (fun b c ks A cap h => by cases h)⟩
  kr := fun b c ks A cap ad h => by cases h
  krt := fun k h => h.elim
  bg := by
    rw [← alloc_size w (.map #[] 0)]
    exact blk_new _ _
  own := own_nil _ _ _ _
  map := ⟨fun _ => none, (MapI.made w).step (blk_alloc (heap_alloc_new w _) _ |>.trans (heap_alloc_new w _).symm), (fun i h => by simp at h), (fun c v h => by cases h)⟩
  vall := fun b n h => by cases h
  bel := below_alloc (below_alloc (Below.refl _ _) _) _
  base := fun b h => by cases h
  flat := ⟨(fun b n h => by cases h), (fun b c ks A cap h => by cases h)⟩
  hg := Nat.le_succ _
  hB := Nat.le_refl _
theorem szOk_zero : szOk (fun _ => 0) := fun b => ⟨by show (-1 : Int) ≤ 0; omega, by show (0 : Int) ≤ 513; omega⟩
def SolvedPost (l0 : List S85) (l1 l2 : List Int) (w : World) (e : Ending) (w' : World) : Prop :=
  Below w.heap.size w w' ∧ ((¬ (∃ θ, Unif l0 l1 l2 θ) ∧ ∃ p, e = .returned (.tuple #[.pointer p, .bool false])) ∨
    ∃ g σ G is sz fl N vs sv mv Av cv, e = .returned (.tuple #[.pointer (some ⟨g, 0, none⟩), .bool true]) ∧ SolvedT l0 l1 l2 w g w' σ G is sz fl N vs sv mv Av cv)
theorem terms_zero {sig : List S85} {u : List Int} (h : Terms sig 0 u) : u = [] := by
  generalize hn : 0 = n at h
  cases h with
  | nil => rfl
  | var c _ _ _ => omega
  | app c _ _ _ => omega
set_option maxHeartbeats 4000000 in
set_option maxRecDepth 100000 in
theorem solved_calls (l0 : List S85) (har : arOk l0) (hs : l0.length ≤ 128) (A0 : Option Addr) (c0 : Nat) (A1 : Option Addr) (c1 : Nat) (l1 : List Int) (A2 : Option Addr) (c2 : Nat) (l2 : List Int) (w : World) (hr0 : Kd.C k85 w A0 l0.length l0) (hr1 : Kd.C (Kd.int .i64) w A1 l1.length l1) (hc1 : l1.length ≤ c1) (hr2 : Kd.C (Kd.int .i64) w A2 l2.length l2) (hc2 : l2.length ≤ c2)
    (ht1 : Terms l0 1 l1) (ht2 : Terms l0 1 l2) (hl1 : l1.length ≤ 17592186044416) (hl2 : l2.length ≤ 17592186044416) :
    Calls Tryd.prog 40 #[.slice A0 l0.length c0, .slice A1 l1.length c1, .slice A2 l2.length c2] w (SolvedPost l0 l1 l2 w) := by
  have hI0 := LayI.init l0 A0 c0 w
  have cL1 := lay_calls l0 har hs A0 c0 (w.heap.size + 1) w.heap.size w hr0 l1.length l1 0 A1 c1 _ _ _ _ _ _ (Nat.le_refl _) hl1 ht1 hr1 hc1 hI0
  have CL1 := Aside0.mk cL1
  have HR0 := Aside0.mk hr0
  have HR2 := Aside0.mk hr2
  have HT1 := Aside0.mk ht1
  have HT2 := Aside0.mk ht2
  have hmm := @run_makeMap Tryd.prog
  clear cL1 hI0 hr0 hr1 hr2 ht1 ht2
  go_enter Tryd.func40, Tryd.ntmps40
  go_wp2_with fail
  refine CL1.out.mono ?_
  rintro e w1 ⟨u, rest, A3, c3, ra, G1, KR1, fl1, vs1, vv1, rfl, p1, p2, p3, p4, p5, p6, p7, p8, p9⟩
  obtain rfl := terms_zero p3
  rw [List.append_nil] at p1
  subst p1
  have cL2 := lay_calls l0 har hs A0 c0 (w.heap.size + 1) w.heap.size w HR0.out l2.length l2 0 A2 c2 _ _ _ _ _ _ (Nat.le_refl _) hl2 HT2.out HR2.out hc2 p6
  have CL2 := Aside0.mk cL2
  obtain ⟨Ta, hTa⟩ := ifv_form G1 ra
  have P6 := Aside0.mk p6
  have P7 := Aside0.mk p7
  have P8 := Aside0.mk p8
  have P9 := Aside0.mk p9
  have HTA := Aside0.mk hTa
  rw [hTa]
  clear cL2 p2 p3 p4 p5 p6 p7 p8 p9 CL1 hTa
  go_wp2_with fail
  refine CL2.out.mono ?_
  rintro e w2 ⟨u2, rest2, A4, c4, rb, G, KR, fl, vs, vv, rfl, q1, q2, q3, q4, q5, q6, q7, q8, q9⟩
  obtain rfl := terms_zero q3
  rw [List.append_nil] at q1
  subst q1
  obtain ⟨Tb, hTb⟩ := ifv_form G rb
  have hra : (G ra).isSome := by rw [q9.gx ra P7.out]; exact P7.out
  have hTa2 : ifv G ra = .iface Ta (.pointer (some ⟨ra, 0, none⟩)) := by rw [← HTA.out]; unfold ifv; rw [q9.gx ra P7.out]
  have hfa : fl ra = l1 := by rw [q9.flx ra P7.out]; exact P8.out
  have hL := q6.laid
  have hw0 : Wf G (fun _ => none) := ⟨(fun b r h => by cases h), (fun b h => ⟨b, Rt.self rfl⟩)⟩
  obtain ⟨is, ok, ⟨K1, e1⟩, hw1, _⟩ := one_total hL _ (fun _ => none) ra rb (Nat.le_refl _) hw0 hra q7
  have e1 := e1 K1 (Nat.le_refl _)
  have hsound : ∀ θ, Unif l0 l1 l2 θ → ok = true ∧ InvU θ fl is := fun θ hθ => by
    have h1 := one_sound hL hθ.1 K1 (fun _ => none) ra rb is ok (fun b r h => by cases h) (fun b r h => by cases h) hra q7 (by unfold val; rw [hfa, q8]; exact hθ.2) e1
    exact ⟨h1.1, h1.2.1⟩
  have cO := one_calls G (fun _ => 0) w q6.base K1 (fun _ => none) ra rb is ok w2 e1 q6.brd q6.bel hra q7
  rw [hTa2, hTb] at cO
  rw [hTb]
  have CO := Aside0.mk cO
  have HSO := Aside0.mk hsound
  have HW1 := Aside0.mk hw1
  have HL := Aside0.mk hL
  have Q6 := Aside0.mk q6
  have E1 := Aside0.mk e1
  have HTB := Aside0.mk hTb
  have HTA2 := Aside0.mk hTa2
  have HRA := Aside0.mk hra
  have HRB := Aside0.mk q7
  have HFA := Aside0.mk hfa
  have HFB := Aside0.mk q8
  have HW0 := Aside0.mk hw0
  have Q9 := Aside0.mk q9
  clear cO hsound hw1 hw0 hL q6 q7 q8 q9 e1 hTa2 hTb hra hfa q2 q3 q4 q5 CL2
  go_wp2_with fail
  refine CO.out.mono ?_
  rintro e w3 ⟨rfl, hB3, hK3, hb3⟩
  have HB3 := Aside0.mk hB3
  have HK3 := Aside0.mk hK3
  have Hb3 := Aside0.mk hb3
  clear CO hB3 hK3 hb3
  cases ok with
  | false =>
    go_wp2_with fail
    go_ret2
    exact ⟨Hb3.out, .inl ⟨(fun ⟨θ, hθ⟩ => by have := (HSO.out θ hθ).1; cases this), none, rfl⟩⟩
  | true =>
    obtain ⟨x1, x2, hN, hsame⟩ := one_spec HL.out K1 _ ra rb is HW0.out HRA.out HRB.out E1.out
    have HN := Aside0.mk hN
    have HSM := Aside0.mk hsame
    obtain ⟨sz1, m1, ok1, ⟨K2, e2⟩, _⟩ := meas_total HL.out HW1.out _ (fun _ => 0) ra (Nat.le_refl _) szOk_zero HRA.out
    have e2 := e2 K2 (Nat.le_refl _)
    have hz0 := szOk_zero
    have cM := measure_calls G is w Q6.out.base K2 (fun _ => 0) ra sz1 m1 ok1 w3 e2 hz0 HB3.out Hb3.out HRA.out
    obtain ⟨hz1, hm1, hm2, hm3⟩ := measF_ok G is K2 _ ra sz1 m1 ok1 hz0 e2
    have hM1 : ∀ θ, Unif l0 l1 l2 θ → ok1 = true ∧ ∀ q, sz1 q ≠ -1 := fun θ hθ => by
      obtain ⟨h1, h2⟩ := meas_ok HL.out HW1.out (HSO.out θ hθ).2 K2 _ ra sz1 m1 ok1 hz0 (fun q hq => absurd hq (by decide)) HRA.out e2
      exact ⟨h1, fun q hq => absurd ((h2 q).1 hq) (by decide)⟩
    have hM2 : ok1 = true → SV G is sz1 := fun h => by
      subst h
      exact (meas_row HL.out HW1.out K2 _ ra sz1 m1 e2 (fun q hq => absurd hq (by decide)) HRA.out).1
    rw [HTA2.out] at cM
    have CM := Aside0.mk cM
    have HM1 := Aside0.mk hM1
    have HM2 := Aside0.mk hM2
    have HZ1 := Aside0.mk hz1
    clear cM hM1 hM2 hz1 hz0 hm1 hm2 hm3 e2 x1 x2 hN hsame
    go_wp2_with fail
    refine CM.out.mono ?_
    rintro e w4 ⟨rfl, hB4, hK4, hb4⟩
    obtain ⟨a1, a2, a3, a4, a5, a6, a7, a8, a9⟩ := Q6.out.apart
    have hk4 : Kept w2 w4 (fun k => (G k).isSome) := HK3.out.then_ hK4 (fun _ h => .inl h)
    have hbg := blk_kept Q6.out.bg hk4 (by rw [a1]; simp)
    have hown : w4.ownsRow w.heap.size 67 1 vv vs.length (vs.map vptr) := own_move Q6.out.own (fun k hk => hk4.2 k (own_lt Q6.out.own k hk) (by show ¬ (G k).isSome = true; rw [a3 k hk]; simp))
    obtain ⟨Av, cv, hvv⟩ := own_slice hown
    have hg1 := (blk_cell hbg 1).trans rfl
    rw [hvv] at hg1
    have HVV := Aside0.mk hvv
    have HB4 := Aside0.mk hB4
    have HK4 := Aside0.mk hk4
    have Hb4 := Aside0.mk hb4
    have hfew := Q6.out.few
    have hA1 := Aside0.mk a1
    have hA3 := Aside0.mk a3
    have HVAR : ∀ i (h : i < vs.length), ∃ n, G vs[i] = some (.var n) := fun i h => by
      obtain ⟨m, _, h2, _⟩ := Q6.out.map
      obtain ⟨n, h3, _⟩ := h2 i h
      exact ⟨n, h3⟩
    have HVAR := Aside0.mk HVAR
    clear hB4 hk4 hb4 hbg hown a1 a2 a3 a4 a5 a6 a7 a8 a9 hvv CM
    go_wp2_with fail
    go_loopg [14, 49] (vs.length + 1) (fun kq v14 v49 wx => ∃ (i : Nat) (sz2 : Nat → Int) (ends : Bool), v14 = .bool ends ∧ v49 = .int .i64 i ∧ kq + i = vs.length + 1 ∧ i ≤ vs.length ∧ szOk sz2 ∧ (∀ θ, Unif l0 l1 l2 θ → ends = true ∧ ∀ q, sz2 q ≠ -1) ∧ (ends = true → SV G is sz2 ∧ ∀ j (h : j < vs.length), j < i → ∃ u, EX G is vs[j] u) ∧ UBoard G is sz2 wx ∧ Kept w2 wx (fun k => (G k).isSome) ∧ Below w.heap.size w wx)
    case atStart => exact ⟨0, sz1, ok1, rfl, rfl, by omega, by omega, HZ1.out, HM1.out, fun h => ⟨HM2.out h, fun j _ h => by omega⟩, HB4.out, HK4.out, Hb4.out⟩
    case round =>
      obtain ⟨i, sz2, ends, rfl, rfl, hkq, hile, hz2, hS1, hS2, hBr, hKr, hbr⟩ := hrel
      have HZ2 := Aside0.mk hz2
      have HS1 := Aside0.mk hS1
      have HS2 := Aside0.mk hS2
      have HBr := Aside0.mk hBr
      have HKr := Aside0.mk hKr
      have Hbr := Aside0.mk hbr
      clear hz2 hS1 hS2 hBr hKr hbr hg1
      have hown : wr.ownsRow w.heap.size 67 1 vv vs.length (vs.map vptr) := own_move Q6.out.own (fun k hk => HKr.out.2 k (own_lt Q6.out.own k hk) (by show ¬ (G k).isSome = true; rw [hA3.out k hk]; simp))
      by_cases hi : i < vs.length
      · obtain ⟨k1, rfl⟩ : ∃ k1, gk = k1 + 1 := ⟨gk - 1, by omega⟩
        obtain ⟨n, hGi⟩ := HVAR.out i hi
        obtain ⟨gv, hAv⟩ : ∃ gv, Av = some ⟨gv, 0, none⟩ := by
          rw [HVV.out] at hown
          rcases hown.2 with ⟨_, h2⟩ | ⟨g', cap, cur, h1, _⟩
          · omega
          · exact ⟨g', by injection h1⟩
        have hcv := World.ownsRow.cells hown (g := gv) (by rw [HVV.out, hAv]; rfl) i (vptr vs[i]) (by rw [List.getElem?_map, List.getElem?_eq_getElem hi]; rfl)
        subst hAv
        unfold vptr at hcv
        rw [addr_add, Nat.zero_add] at hcv
        have ai : (⟨gv, 0, none⟩ : Addr).add i = ⟨gv, i, none⟩ := addr_add gv 0 i |>.trans (by rw [Nat.zero_add])
        have pa : ((0 : Int) ≤ (i : Int)) = True := eq_true (by omega)
        have qa : ((i : Int) < (vs.length : Int)) = True := eq_true (by omega)
        have hGs : (G vs[i]).isSome := by rw [hGi]; rfl
        obtain ⟨sz3, m3, ok3, ⟨K3, e3⟩, _⟩ := meas_total HL.out HW1.out _ sz2 vs[i] (Nat.le_refl _) HZ2.out hGs
        have e3 := e3 K3 (Nat.le_refl _)
        have cM := measure_calls G is w Q6.out.base K3 sz2 vs[i] sz3 m3 ok3 wr e3 HZ2.out HBr.out Hbr.out hGs
        obtain ⟨hz3, _⟩ := measF_ok G is K3 _ vs[i] sz3 m3 ok3 HZ2.out e3
        rw [ifv_var hGi] at cM
        have hS3 : ∀ θ, Unif l0 l1 l2 θ → (ends && ok3) = true ∧ ∀ q, sz3 q ≠ -1 := fun θ hθ => by
          obtain ⟨h1, h2⟩ := HS1.out θ hθ
          obtain ⟨h3, h4⟩ := meas_ok HL.out HW1.out (HSO.out θ hθ).2 K3 sz2 vs[i] sz3 m3 ok3 HZ2.out (fun q hq => absurd hq (h2 q)) hGs e3
          exact ⟨by rw [h1, h3]; rfl, fun q hq => h2 q ((h4 q).1 hq)⟩
        have hS4 : (ends && ok3) = true → SV G is sz3 ∧ ∀ j (h : j < vs.length), j < i + 1 → ∃ u, EX G is vs[j] u := fun h => by
          obtain ⟨h1, h2⟩ := Bool.and_eq_true_iff.1 h
          subst h2
          obtain ⟨h3, h4⟩ := HS2.out h1
          obtain ⟨h5, u, h6, _⟩ := meas_row HL.out HW1.out K3 sz2 vs[i] sz3 m3 e3 h3 hGs
          refine ⟨h5, fun j hj h7 => ?_⟩
          by_cases e : j = i
          · subst e; exact ⟨u, h6⟩
          · exact h4 j hj (by omega)
        have CM := Aside0.mk cM
        have HZ3 := Aside0.mk hz3
        have HS3 := Aside0.mk hS3
        have HS4 := Aside0.mk hS4
        clear cM hz3 hS3 hS4 e3 hGs hGi hown
        cases hends : ends with
        | true =>
          subst hends
          go_wp2_with fail
          refine CM.out.mono ?_
          rintro e w5 ⟨rfl, hB5, hK5, hb5⟩
          have HB5 := Aside0.mk hB5
          have HK5 := Aside0.mk (HKr.out.then_ hK5 (fun _ h => .inl h))
          have Hb5 := Aside0.mk hb5
          clear CM hB5 hK5 hb5
          go_wp2_with fail
          go_roundg k1
          case measure => omega
          case rel => exact ⟨i + 1, sz3, ok3, rfl, by go_num, by omega, by omega, HZ3.out, HS3.out, HS4.out, HB5.out, HK5.out, Hb5.out⟩
        | false =>
          subst hends
          go_wp2_with fail
          refine CM.out.mono ?_
          rintro e w5 ⟨rfl, hB5, hK5, hb5⟩
          have HB5 := Aside0.mk hB5
          have HK5 := Aside0.mk (HKr.out.then_ hK5 (fun _ h => .inl h))
          have Hb5 := Aside0.mk hb5
          clear CM hB5 hK5 hb5
          go_wp2_with fail
          go_roundg k1
          case measure => omega
          case rel => exact ⟨i + 1, sz3, false, rfl, by go_num, by omega, by omega, HZ3.out, HS3.out, HS4.out, HB5.out, HK5.out, Hb5.out⟩
      · obtain rfl : i = vs.length := by omega
        have HOW := Aside0.mk hown
        clear hown
        go_wp2_with fail
        go_ret2
        cases hends : ends with
        | false =>
          subst hends
          exact ⟨Hbr.out, .inl ⟨(fun ⟨θ, hθ⟩ => by have := (HS1.out θ hθ).1; cases this), _, rfl⟩⟩
        | true =>
          subst hends
          obtain ⟨mm, hmm2, hm1, hm2⟩ := Q6.out.map
          obtain ⟨hsv, hex⟩ := HS2.out rfl
          have idx : ∀ b n, G b = some (.var n) → ∃ j, ∃ h : j < vs.length, vs[j] = b ∧ mm (-1 - n) = some (.int .i64 (j : Nat)) := fun b n h => by
            obtain ⟨j, hj, e⟩ := List.getElem_of_mem (Q6.out.vall b n h)
            obtain ⟨n', h1, h2⟩ := hm1 j hj
            rw [e, h] at h1
            cases h1
            exact ⟨j, hj, e, h2⟩
          have huniq : ∀ b b' n, G b = some (.var n) → G b' = some (.var n) → b = b' := fun b b' n h h' => by
            obtain ⟨j, hj, e, h1⟩ := idx b n h
            obtain ⟨j', hj', e', h1'⟩ := idx b' n h'
            rw [h1] at h1'
            injection h1' with h1'
            injection h1' with _ h1'
            obtain rfl : j = j' := by omega
            rw [← e, ← e']
          have hvs : ∀ b n, G b = some (.var n) → b ∈ vs ∧ (-1 - n) ∈ l1 ++ l2 := fun b n h => by
            have hmem := Q6.out.vall b n h
            refine ⟨hmem, ?_⟩
            obtain ⟨lb, e2, p2⟩ := Q9.out.vsx
            obtain ⟨la, e1', p1'⟩ := P9.out.vsx
            rw [e2, e1', List.nil_append] at hmem
            rcases List.mem_append.1 hmem with hm | hm
            · obtain ⟨n', h3, h4⟩ := p1' b hm
              have := Q9.out.gx b (by rw [h3]; rfl)
              rw [h, h3] at this
              cases this
              exact List.mem_append_left _ h4
            · obtain ⟨n', h3, h4⟩ := p2 b hm
              rw [h] at h3
              cases h3
              exact List.mem_append_right _ h4
          have hall : ∀ c, c ∈ l1 ++ l2 → c < 0 → ∃ b, b ∈ vs ∧ G b = some (.var (-1 - c)) := fun c hc hneg => by
            rcases List.mem_append.1 hc with hc | hc
            · obtain ⟨b, h⟩ := var_node HL.out ra HRA.out c (by rw [HFA.out]; exact hc) hneg
              exact ⟨b, Q6.out.vall _ _ h, h⟩
            · obtain ⟨b, h⟩ := var_node HL.out rb HRB.out c (by rw [HFB.out]; exact hc) hneg
              exact ⟨b, Q6.out.vall _ _ h, h⟩
          have hlo : ∀ c, c ∈ l1 ++ l2 → -1048576 ≤ c := fun c hc => by
            rcases List.mem_append.1 hc with hc | hc
            · exact (HT1.out.code c hc).1
            · exact (HT2.out.code c hc).1
          obtain ⟨σ, s1, s2, s3⟩ := solved_plain HL.out HW1.out HN.out HRA.out HRB.out HFA.out HFB.out HSM.out hall hvs huniq hlo (fun b hb => by
            obtain ⟨j, hj, rfl⟩ := List.getElem_of_mem hb
            exact hex j hj hj) (fun θ hθ => (HSO.out θ hθ).2)
          refine ⟨Hbr.out, .inr ⟨_, σ, G, is, sz2, fl, _, vs, _, _, Av, cv, rfl, {
            mgu := s1, out := s2, brd := HBr.out, laid := HL.out, wf := HW1.out, inv := (HSO.out σ s1.uni).2, szok := HZ2.out, sv_ := hsv, shut := (HS1.out σ s1.uni).2,
            bg := by
              have := blk_kept Q6.out.bg HKr.out (by show ¬ (G _).isSome = true; rw [hA1.out]; simp)
              rw [HVV.out] at this
              exact this
            own := by rw [← HVV.out]; exact HOW.out
            var := fun b hb => by
              obtain ⟨j, hj, rfl⟩ := List.getElem_of_mem hb
              obtain ⟨n, hn⟩ := HVAR.out j hj
              exact ⟨n, hn, (hvs _ n hn).2, s3 _ n hn⟩
            all := hall
            nd := by
              rw [List.Nodup, List.pairwise_iff_getElem]
              intro i j hi hj hij
              rw [List.length_map] at hi hj
              rw [List.getElem_map, List.getElem_map]
              obtain ⟨n1, e1, f1⟩ := hm1 i hi
              obtain ⟨n2, e2, f2⟩ := hm1 j hj
              rw [HL.out.flat.var _ _ e1, HL.out.flat.var _ _ e2]
              intro e
              have := (List.cons.inj e).1
              obtain rfl : n1 = n2 := by omega
              rw [f1] at f2
              injection f2 with f2
              injection f2 with _ f2
              omega
            few := hfew
            base := Q6.out.base }⟩⟩
end
section
open Go.Sort
theorem uclosure (W : World) (x y : KV) : Calls Tryd.prog 43 #[.agg (encKV x).toArray, .agg (encKV y).toArray] W fun e w' => e = .returned (.int .i64 (x.key - y.key)) ∧ ∃ q os', w' = grow (W.drewN q) os' := by
  have hu30 := Tryd.underlying30
  unfold encKV
  obtain ⟨kx, hx0, hx1, ⟨sx, hsx⟩⟩ := x
  obtain ⟨ky, hy0, hy1, ⟨sy, hsy⟩⟩ := y
  simp only
  have hw : IntKind.i64.wrap (kx - ky) = kx - ky := by rw [IntKind.wrap_i64]; omega
  go_enter Tryd.func43, Tryd.ntmps43
  go_wp2_with fail
  go_ret
  refine ⟨rfl, 0, #[.cells #[.int .i64 kx, sx] 30 (0, 0), .cells #[.int .i64 ky, sy] 30 (0, 0)], ?_⟩
  exact grow_two _ _ _ 0
noncomputable def unify_Unify.f (l0 : List S85) (l1 l2 : List Int) : Option (List S30 × Int) := open Classical in if sigFine l0 ∧ l1.length ≤ 17592186044416 ∧ l2.length ≤ 17592186044416 then some (unifyR l0 l1 l2) else none
noncomputable def unify_Can.f (l0 : List S85) (l1 l2 : List Int) : Option Bool := open Classical in if sigFine l0 ∧ l1.length ≤ 17592186044416 ∧ l2.length ≤ 17592186044416 then some (canV l0 l1 l2) else none
theorem right_f {l0 : List S85} {l1 l2 : List Int} (hF : sigFine l0) (hl1 : l1.length ≤ 17592186044416) (hl2 : l2.length ≤ 17592186044416) : unify_right.f l0 l1 l2 = some (if chk l0 l1 = 0 then chk l0 l2 else chk l0 l1) := by
  unfold unify_right.f
  rw [term_Check.f, if_pos ⟨hF, by omega⟩, term_Check.f, if_pos ⟨hF, by omega⟩]
  simp only [Option.bind_some]
  split <;> rfl
set_option maxHeartbeats 4000000 in
set_option maxRecDepth 100000 in
theorem unify_Can.calls (A0 : Option Addr) (c0 : Nat) (l0 : List S85) (A1 : Option Addr) (c1 : Nat) (l1 : List Int) (A2 : Option Addr) (c2 : Nat) (l2 : List Int) (r : Bool) (w : World) (hr0 : Kd.C k85 w A0 l0.length l0) (hc0 : l0.length ≤ c0) (hr1 : Kd.C (Kd.int .i64) w A1 l1.length l1) (hc1 : l1.length ≤ c1) (hr2 : Kd.C (Kd.int .i64) w A2 l2.length l2) (hc2 : l2.length ≤ c2) (h : unify_Can.f l0 l1 l2 = some r) (hT : Tabs w) :
    Calls Tryd.prog 20 #[.slice A0 l0.length c0, .slice A1 l1.length c1, .slice A2 l2.length c2] w fun e w' => e = .returned (.bool r) ∧ Below w.heap.size w w' := by
  have hg : sigFine l0 ∧ l1.length ≤ 17592186044416 ∧ l2.length ≤ 17592186044416 := by
    apply Classical.byContradiction
    intro hn
    rw [unify_Can.f, if_neg hn] at h
    simp at h
  rw [unify_Can.f, if_pos hg] at h
  have hE := Aside0.mk (Option.some.inj h)
  have cR := unify_right.calls A0 c0 l0 A1 c1 l1 A2 c2 l2 _ w hr0 hc0 hr1 hc1 hr2 hc2 (right_f hg.1 hg.2.1 hg.2.2) hT
  by_cases hp : chk l0 l1 = 0
  · by_cases ht : chk l0 l2 = 0
    · obtain ⟨hse, htp⟩ := chk_ok hp
      obtain ⟨_, htt⟩ := chk_ok ht
      rw [if_pos hp, ht] at cR
      have cS := fun (W : World) (hb : Below w.heap.size w W) => solved_calls l0 (sig_ar hse) (sig_len hse) A0 c0 A1 c1 l1 A2 c2 l2 W (Kd.C_below hr0 hb) (Kd.C_below hr1 hb) hc1 (Kd.C_below hr2 hb) hc2 htp htt hg.2.1 hg.2.2
      have CS := Aside0.mk cS
      have CR := Aside0.mk cR
      have HP := Aside0.mk hp
      have HQ := Aside0.mk ht
      clear h hr0 hr1 hr2 hc0 hc1 hc2 hT cS cR hg hp ht hse htp htt
      go_enter Tryd.func20, Tryd.ntmps20
      go_wp2_with fail
      refine CR.out.mono ?_
      rintro e w1 ⟨rfl, hb1⟩
      have HB1 := Aside0.mk hb1
      clear hb1
      go_wp2_with fail
      refine (CS.out _ HB1.out).mono ?_
      rintro e w2 ⟨hb2, hs⟩
      have HB2 := Aside0.mk (below_step HB1.out hb2)
      clear hb2
      rcases hs with ⟨hn, p, rfl⟩ | ⟨g, σ, G, is, sz, fl, N, vs, sv, mv, Av, cv, rfl, hS⟩
      · have HN := Aside0.mk hn
        clear hn
        go_wp2_with fail
        go_ret
        refine ⟨?_, HB2.out⟩
        rw [← hE.out, canV_no HN.out]
        rfl
      · have HS := Aside0.mk hS
        clear hS
        go_wp2_with fail
        go_ret
        refine ⟨?_, HB2.out⟩
        rw [← hE.out, canV_yes HP.out HQ.out ⟨σ, HS.out.mgu.uni⟩]
        rfl
    · rw [if_pos hp] at cR
      have hne : (chk l0 l2 != 0) = true := bne_iff_ne.mpr ht
      have hv := hE.out
      rw [canV, if_neg (fun h => ht h.2)] at hv
      subst hv
      have CR := Aside0.mk cR
      clear h hr0 hr1 hr2 hc0 hc1 hc2 hT cR hg hp ht hE
      go_enter Tryd.func20, Tryd.ntmps20
      go_wp2_with fail
      refine CR.out.mono ?_
      rintro e w1 ⟨rfl, hb1⟩
      have HB1 := Aside0.mk hb1
      clear hb1
      go_wp2_with fail
      go_ret
      exact ⟨rfl, HB1.out⟩
  · rw [if_neg hp] at cR
    have hne : (chk l0 l1 != 0) = true := bne_iff_ne.mpr hp
    have hv := hE.out
    rw [canV, if_neg (fun h => hp h.1)] at hv
    subst hv
    have CR := Aside0.mk cR
    clear h hr0 hr1 hr2 hc0 hc1 hc2 hT cR hg hp hE
    go_enter Tryd.func20, Tryd.ntmps20
    go_wp2_with fail
    refine CR.out.mono ?_
    rintro e w1 ⟨rfl, hb1⟩
    have HB1 := Aside0.mk hb1
    clear hb1
    go_wp2_with fail
    go_ret
    exact ⟨rfl, HB1.out⟩
theorem eql_nil_nil (w : World) : (binOp .eql 69 .nilIface .nilIface).run Tryd.prog w = .ok (.bool true) w := by
  have h : ∀ d : Nat, (Op.equalIn (d + 1) 69 .nilIface .nilIface).run Tryd.prog w = .ok true w := fun d => by simp [Op.equalIn, run_underlying Tryd.underlying69]
  simp only [binOp]
  simp [Op.equal, Op.maxDepth, h 9999]
theorem eql_if_nil (T : Nat) (u : Value) (w : World) : (binOp .eql 69 (.iface T u) .nilIface).run Tryd.prog w = .ok (.bool false) w := by
  have h : ∀ d : Nat, (Op.equalIn (d + 1) 69 (.iface T u) .nilIface).run Tryd.prog w = .ok false w := fun d => by simp [Op.equalIn, run_underlying Tryd.underlying69]
  simp only [binOp]
  simp [Op.equal, Op.maxDepth, h 9999]
theorem cell_still {w w1 : World} {b o : Nat} {v : Value} (h : w1.heap[b]? = w.heap[b]?) (hc : w.cell? ⟨b, o, none⟩ = some v) : w1.cell? ⟨b, o, none⟩ = some v := by
  rw [← hc]
  simp only [World.cell?, h]
theorem cell_on {w : World} {p : Addr} {v : Value} (o : Obj) (hc : w.cell? p = some v) : (w.alloc o).cell? p = some v := ((below_alloc (Below.refl w.heap.size w) o).cell (World.block_lt_of_cell? _ _ hc)).trans hc
theorem own_not {w : World} {base : Nat} {e n t : Nat} {v : Value} {xs : List Value} (h : w.ownsRow base e 1 v n xs) {k : Nat} {cells : Array Value} (hk : v.ownBlock = some k) (hb : w.heap[k]? = some (.cells cells t (0, 0))) : e = t := by
  rcases h.2 with ⟨rfl, _⟩ | ⟨g, cap, cur, rfl, _, h2, _⟩
  · cases hk
  · cases hk
    rw [h2] at hb
    injection hb with hb
    injection hb
theorem UBoard.kept2 {G : UG} {is is0 : Nat → Option Nat} {sz sz0 : Nat → Int} {w0 w w1 : World} (h0 : UBoard G is0 sz0 w0) (h : UBoard G is sz w) (hk : ∀ b, b < w0.heap.size → w1.heap[b]? = w.heap[b]?) : UBoard G is sz w1 where
  var := fun b n hb => (hk b (blk_lt (h0.var b n hb))).trans (h.var b n hb)
  tree := fun b c ks A cap hb => (hk b (blk_lt (h0.tree b c ks A cap hb))).trans (h.tree b c ks A cap hb)
  kid := fun b c ks A cap hb i hi => by
    obtain ⟨ad, e, hg, hc⟩ := h.kid b c ks A cap hb i hi
    obtain ⟨ad0, e0, _, hc0⟩ := h0.kid b c ks A cap hb i hi
    rw [e] at e0
    obtain rfl := Option.some.inj e0
    refine ⟨ad, e, hg, ?_⟩
    have := hk (ad.add i).block (World.block_lt_of_cell? _ _ hc0)
    rw [← hc]
    simp only [World.cell?, this]
  closed := h.closed
  isIn := h.isIn
  num := h.num
  few := h.few
/-- The binds of the first i variables. -/
structure UIt (G : UG) (is : Nat → Option Nat) (σ : Int → List Int) (vs : List Nat) (i : Nat) (xs : List S30) : Prop where
  len : xs.length ≤ i
  mem : ∀ x, x ∈ xs ↔ ∃ b, b ∈ vs.take i ∧ is b ≠ none ∧ ∃ n, G b = some (.var n) ∧ x = ⟨n, σ (-1 - n)⟩
  small : ∀ b, b ∈ vs.take i → is b ≠ none → ∀ n, G b = some (.var n) → (σ (-1 - n)).length ≤ 512
  nd : (xs.map (·.f0)).Nodup
theorem take_mem {vs : List Nat} {i : Nat} (h : i < vs.length) (b : Nat) : b ∈ vs.take (i + 1) ↔ b ∈ vs.take i ∨ b = vs[i] := by
  rw [List.take_add_one, List.getElem?_eq_getElem h, List.mem_append]
  simp
theorem UIt.nil (G : UG) (is : Nat → Option Nat) (σ : Int → List Int) (vs : List Nat) : UIt G is σ vs 0 [] :=
  ⟨Nat.le_refl _, (fun x => by simp), (fun b h => by simp at h), List.Pairwise.nil⟩
theorem UIt.skip {G : UG} {is : Nat → Option Nat} {σ : Int → List Int} {vs : List Nat} {i : Nat} {xs : List S30} (h : UIt G is σ vs i xs) (hi : i < vs.length) (hn : is vs[i] = none) : UIt G is σ vs (i + 1) xs where
  len := Nat.le_succ_of_le h.len
  mem := fun x => by
    rw [h.mem]
    constructor
    · rintro ⟨b, h1, h2⟩; exact ⟨b, (take_mem hi b).2 (.inl h1), h2⟩
    · rintro ⟨b, h1, h2, h3⟩
      rcases (take_mem hi b).1 h1 with h1 | rfl
      · exact ⟨b, h1, h2, h3⟩
      · exact absurd hn h2
  small := fun b h1 h2 => by
    rcases (take_mem hi b).1 h1 with h1 | rfl
    · exact h.small b h1 h2
    · exact absurd hn h2
  nd := h.nd
theorem UIt.push {G : UG} {is : Nat → Option Nat} {σ : Int → List Int} {fl : Nat → List Int} {vs : List Nat} {i : Nat} {xs : List S30} (h : UIt G is σ vs i xs) (hi : i < vs.length) (hn : is vs[i] ≠ none) {n : Int} (hG : G vs[i] = some (.var n)) (hs : (σ (-1 - n)).length ≤ 512) (hf : ∀ b m, G b = some (.var m) → fl b = [-1 - m]) (hnd : (vs.map fun b => fl b).Nodup) : UIt G is σ vs (i + 1) (xs ++ [⟨n, σ (-1 - n)⟩]) where
  len := by have := h.len; simp; omega
  mem := fun x => by
    rw [List.mem_append, h.mem, List.mem_singleton]
    constructor
    · rintro (⟨b, h1, h2⟩ | rfl)
      · exact ⟨b, (take_mem hi b).2 (.inl h1), h2⟩
      · exact ⟨_, (take_mem hi _).2 (.inr rfl), hn, n, hG, rfl⟩
    · rintro ⟨b, h1, h2, m, h3, rfl⟩
      rcases (take_mem hi b).1 h1 with h1 | rfl
      · exact .inl ⟨b, h1, h2, m, h3, rfl⟩
      · rw [hG] at h3; cases h3; exact .inr rfl
  small := fun b h1 h2 m h3 => by
    rcases (take_mem hi b).1 h1 with h1 | rfl
    · exact h.small b h1 h2 m h3
    · rw [hG] at h3; cases h3; exact hs
  nd := by
    rw [List.map_append, List.nodup_append]
    refine ⟨h.nd, by simp, fun a ha b hb => ?_⟩
    obtain ⟨x, hx, rfl⟩ := List.mem_map.1 ha
    obtain rfl : b = n := by simpa using hb
    obtain ⟨b', h1, _, m, h3, rfl⟩ := (h.mem x).1 hx
    rintro rfl
    obtain ⟨j, hj, e⟩ := List.getElem_of_mem h1
    have hj1 : j < i := by have := hj; rw [List.length_take] at this; omega
    rw [List.getElem_take] at e
    rw [List.Nodup, List.pairwise_iff_getElem] at hnd
    refine hnd j i (by rw [List.length_map]; omega) (by rw [List.length_map]; exact hi) hj1 ?_
    rw [List.getElem_map, List.getElem_map, e, hf _ _ h3, hf _ _ hG]
theorem UIt.ans {l0 : List S85} {l1 l2 : List Int} {w w' : World} {g : Nat} {σ : Int → List Int} {G : UG} {is : Nat → Option Nat} {sz : Nat → Int} {fl : Nat → List Int} {N : Nat} {vs : List Nat} {sv mv : Value} {Av : Option Addr} {cv : Nat} (hS : SolvedT l0 l1 l2 w g w' σ G is sz fl N vs sv mv Av cv) {xs ys : List S30} (h : UIt G is σ vs vs.length xs) (hp : ys.Perm xs) (hle : ys.Pairwise (fun x y => x.f0 ≤ y.f0)) : UAns l0 l1 l2 ys 0 := by
  refine UAns.mk hS.mgu hS.out (fun c hc hneg hne => ?_) hp hle h.nd (fun x => ?_)
  · obtain ⟨b, hb, hG⟩ := hS.all c hc hneg
    obtain ⟨n, h1, h2, h3, h4⟩ := hS.var b hb
    rw [hG] at h1
    cases h1
    have e : -1 - (-1 - c) = c := by omega
    rw [e] at h4
    have := h.small b (by rw [List.take_length]; exact hb) (fun hn => hne (h4.1 hn)) _ hG
    rw [e] at this
    exact this
  · rw [h.mem, List.take_length]
    constructor
    · rintro ⟨b, hb, hn, n, hG, rfl⟩
      obtain ⟨n', h1, h2, h3, h4⟩ := hS.var b hb
      rw [hG] at h1
      cases h1
      have := (hS.brd.num b n hG).1
      exact ⟨-1 - n, h2, by omega, (fun e => hn (h4.2 e)), by congr 1; omega⟩
    · rintro ⟨c, hc, hneg, hne, rfl⟩
      obtain ⟨b, hb, hG⟩ := hS.all c hc hneg
      obtain ⟨n, h1, h2, h3, h4⟩ := hS.var b hb
      rw [hG] at h1
      cases h1
      have e : -1 - (-1 - c) = c := by omega
      rw [e] at h4
      exact ⟨b, hb, (fun hn => hne (h4.1 hn)), _, hG, by rw [e]⟩
theorem unifyR_eq {l0 : List S85} {l1 l2 : List Int} (hp : chk l0 l1 = 0) (ht : chk l0 l2 = 0) (hlo : ∀ c, c ∈ l1 ++ l2 → -1048576 ≤ c) {l : List S30} {e : Int} (h : UAns l0 l1 l2 l e) : unifyR l0 l1 l2 = (l, e) := by
  rw [unifyR, if_neg (fun h => h hp), if_neg (fun h => h ht), unifyV_eq hlo h]
set_option maxHeartbeats 4000000 in
set_option maxRecDepth 100000 in
theorem unify_Unify.calls (A0 : Option Addr) (c0 : Nat) (l0 : List S85) (A1 : Option Addr) (c1 : Nat) (l1 : List Int) (A2 : Option Addr) (c2 : Nat) (l2 : List Int) (r1 : List S30) (r2 : Int) (w : World) (hr0 : Kd.C k85 w A0 l0.length l0) (hc0 : l0.length ≤ c0) (hr1 : Kd.C (Kd.int .i64) w A1 l1.length l1) (hc1 : l1.length ≤ c1) (hr2 : Kd.C (Kd.int .i64) w A2 l2.length l2) (hc2 : l2.length ≤ c2) (h : unify_Unify.f l0 l1 l2 = some (r1, r2)) (hT : Tabs w) :
    Calls Tryd.prog 16 #[.slice A0 l0.length c0, .slice A1 l1.length c1, .slice A2 l2.length c2] w fun e w' => ∃ v0_ : Value, e = .returned (.tuple #[v0_, .int .i64 r2]) ∧ Kd.S k30 30 w' w.heap.size (fun _ => True) v0_ r1 ∧ Below w.heap.size w w' := by
  have hg : sigFine l0 ∧ l1.length ≤ 17592186044416 ∧ l2.length ≤ 17592186044416 := by
    apply Classical.byContradiction
    intro hn
    rw [unify_Unify.f, if_neg hn] at h
    simp at h
  rw [unify_Unify.f, if_pos hg] at h
  have hE := Aside0.mk (Option.some.inj h)
  have cR := unify_right.calls A0 c0 l0 A1 c1 l1 A2 c2 l2 _ w hr0 hc0 hr1 hc1 hr2 hc2 (right_f hg.1 hg.2.1 hg.2.2) hT
  by_cases hp : chk l0 l1 = 0
  · by_cases ht : chk l0 l2 = 0
    · obtain ⟨hse, htp⟩ := chk_ok hp
      obtain ⟨_, htt⟩ := chk_ok ht
      rw [if_pos hp, ht] at cR
      have cS := fun (W : World) (hb : Below w.heap.size w W) => solved_calls l0 (sig_ar hse) (sig_len hse) A0 c0 A1 c1 l1 A2 c2 l2 W (Kd.C_below hr0 hb) (Kd.C_below hr1 hb) hc1 (Kd.C_below hr2 hb) hc2 htp htt hg.2.1 hg.2.2
      have hlo : ∀ c, c ∈ l1 ++ l2 → -1048576 ≤ c := fun c hc => by
        rcases List.mem_append.1 hc with hc | hc
        · exact (htp.code c hc).1
        · exact (htt.code c hc).1
      have HU : Aside0 (∀ l e, UAns l0 l1 l2 l e → r1 = l ∧ r2 = e) := ⟨fun l e hu => by
        have := hE.out.symm.trans (unifyR_eq hp ht hlo hu)
        exact Prod.mk.inj this⟩
      have CS := Aside0.mk cS
      have CR := Aside0.mk cR
      clear h hr0 hr1 hr2 hc0 hc1 hc2 hT cS cR hg hp ht hse htp htt hE hlo
      go_enter Tryd.func16, Tryd.ntmps16
      go_wp2_with fail
      refine CR.out.mono ?_
      rintro e w1 ⟨rfl, hb1⟩
      have HB1 := Aside0.mk hb1
      clear hb1
      go_wp2_with fail
      refine (CS.out _ HB1.out).mono ?_
      rintro e w2 ⟨hb2, hs⟩
      have HB2 := Aside0.mk hb2
      clear hb2
      rcases hs with ⟨hn, p, rfl⟩ | ⟨g, σ, G, is, sz, fl, N, vs, sv, mv, Av, cv, rfl, hS⟩
      · have HN := Aside0.mk hn
        clear hn
        go_wp2_with fail
        go_ret2
        obtain ⟨rfl, rfl⟩ := HU.out [] 60 (.inl ⟨rfl, rfl, HN.out⟩)
        exact ⟨_, rfl, Kd.S_nil _ _ _ _ _, below_step HB1.out HB2.out⟩
      · have HS := Aside0.mk hS
        have hbg := hS.bg
        have hg1 := (blk_cell hbg 1).trans rfl
        have hfew := hS.few
        have HNG : ∀ k, (Value.slice Av vs.length cv).ownBlock = some k → ¬ (G k).isSome := fun k hk hG => by
          cases hGk : G k with
          | none => rw [hGk] at hG; cases hG
          | some nd =>
            cases nd with
            | var n => exact absurd (own_not hS.own hk (hS.brd.var k n hGk)) (by decide)
            | tree c ks A cap => exact absurd (own_not hS.own hk (hS.brd.tree k c ks A cap hGk)) (by decide)
        have HNG := Aside0.mk HNG
        have hu30 := Tryd.underlying30
        clear hS hbg
        go_wp2_with fail
        go_loopg [11, 37] (vs.length + 1) (fun kq v11 v37 wx => ∃ (i : Nat) (sz2 : Nat → Int) (xs : List S30), v37 = .int .i64 i ∧ kq + i = vs.length + 1 ∧ i ≤ vs.length ∧ xs.length ≤ 1048577 ∧ szOk sz2 ∧ (∀ q, sz2 q ≠ -1) ∧ SV G is sz2 ∧ UBoard G is sz2 wx ∧ Kept w2 wx (fun k => (G k).isSome) ∧ Below w1.heap.size w1 wx ∧ Kd.S k30 30 wx w1.heap.size (fun k => w2.heap.size ≤ k) v11 xs ∧ UIt G is σ vs i xs)
        case atStart => exact ⟨0, sz, [], rfl, by omega, by omega, by simp, HS.out.szok, HS.out.shut, HS.out.sv_, HS.out.brd, Kept.refl _ _, HB2.out, Kd.S_nil _ _ _ _ _, UIt.nil _ _ _ _⟩
        case round =>
          obtain ⟨i, sz2, xs, rfl, hkq, hile, hxl, hz2, hsh, hsv, hBr, hKr, hbr, hSx, hit⟩ := hrel
          have HZ2 := Aside0.mk hz2
          have HSH := Aside0.mk hsh
          have HSV := Aside0.mk hsv
          have HBr := Aside0.mk hBr
          have HKr := Aside0.mk hKr
          have Hbr := Aside0.mk hbr
          have HSX := Aside0.mk hSx
          have HIT := Aside0.mk hit
          clear hz2 hsh hsv hBr hKr hbr hSx hit hg1
          by_cases hi : i < vs.length
          · obtain ⟨k1, rfl⟩ : ∃ k1, gk = k1 + 1 := ⟨gk - 1, by omega⟩
            have hown := own_move HS.out.own (w1 := wr) (fun k hk => HKr.out.2 k (own_lt HS.out.own k hk) (HNG.out k hk))
            obtain ⟨n, hGi, hmem, hEx, hiff⟩ := HS.out.var vs[i] (List.getElem_mem hi)
            obtain ⟨gv, hAv⟩ : ∃ gv, Av = some ⟨gv, 0, none⟩ := by
              rcases hown.2 with ⟨_, h2⟩ | ⟨g', cap, cur, h1, _⟩
              · omega
              · exact ⟨g', by injection h1⟩
            have hcv := World.ownsRow.cells hown (g := gv) (by rw [hAv]; rfl) i (vptr vs[i]) (by rw [List.getElem?_map, List.getElem?_eq_getElem hi]; rfl)
            subst hAv
            unfold vptr at hcv
            rw [addr_add, Nat.zero_add] at hcv
            have ai : (⟨gv, 0, none⟩ : Addr).add i = ⟨gv, i, none⟩ := addr_add gv 0 i |>.trans (by rw [Nat.zero_add])
            have pa : ((0 : Int) ≤ (i : Int)) = True := eq_true (by omega)
            have qa : ((i : Int) < (vs.length : Int)) = True := eq_true (by omega)
            have hblk := HBr.out.var _ n hGi
            have hq1 := (blk_cell hblk 1).trans rfl
            cases his : is vs[i] with
            | none =>
              have HNX := Aside0.mk (HIT.out.skip hi his)
              have hc1 : wr.cell? ⟨vs[i], 1, none⟩ = some .nilIface := by rw [hq1, his]; rfl
              have heq := eql_nil_nil wr
              clear hown hGi hmem hEx hiff hblk his hq1
              go_wp2_with fail
              go_roundg k1
              case measure => omega
              case rel => exact ⟨i + 1, sz2, xs, by go_num, by omega, by omega, hxl, HZ2.out, HSH.out, HSV.out, HBr.out, HKr.out, Hbr.out, HSX.out, HNX.out⟩
            | some d =>
              have hGs : (G vs[i]).isSome := by rw [hGi]; rfl
              obtain ⟨T, hTd⟩ := ifv_form G d
              have hc1 : wr.cell? ⟨vs[i], 1, none⟩ = some (.iface T (.pointer (some ⟨d, 0, none⟩))) := by rw [hq1, his, isv, hTd]; rfl
              have heq := eql_if_nil T (.pointer (some ⟨d, 0, none⟩)) wr
              obtain ⟨sz3, m3, ok3, ⟨K3, e3⟩, _⟩ := meas_total HS.out.laid HS.out.wf _ sz2 vs[i] (Nat.le_refl _) HZ2.out hGs
              have e3 := e3 K3 (Nat.le_refl _)
              obtain ⟨h1, h2⟩ := meas_ok HS.out.laid HS.out.wf HS.out.inv K3 sz2 vs[i] sz3 m3 ok3 HZ2.out (fun q hq => absurd hq (HSH.out q)) hGs e3
              subst h1
              have cM := measure_calls G is w1 HS.out.base K3 sz2 vs[i] sz3 m3 true wr e3 HZ2.out HBr.out Hbr.out hGs
              obtain ⟨hz3, _⟩ := measF_ok G is K3 _ vs[i] sz3 m3 true HZ2.out e3
              obtain ⟨hsv3, u, hu, hm3⟩ := meas_row HS.out.laid HS.out.wf K3 sz2 vs[i] sz3 m3 e3 HSV.out hGs
              obtain rfl := Ev.det hu hEx
              rw [ifv_var hGi] at cM
              have CM := Aside0.mk cM
              have HZ3 := Aside0.mk hz3
              have HSV3 := Aside0.mk hsv3
              have HSH3 : Aside0 (∀ q, sz3 q ≠ -1) := ⟨fun q hq => HSH.out q ((h2 q).1 hq)⟩
              have HNE := Aside0.mk (show σ (-1 - n) ≠ [-1 - n] from fun e => by rw [hiff.2 e] at his; cases his)
              have HIS := Aside0.mk (show is vs[i] ≠ none from by rw [his]; simp)
              have HMEM := Aside0.mk hmem
              have HGI := Aside0.mk hGi
              obtain ⟨KU, hKU⟩ := hu.rounds
              have HKU := Aside0.mk hKU
              have hnum := HBr.out.num _ n hGi
              clear cM hz3 hsv3 h2 hiff hq1 hown hGi hmem hEx hblk his e3 hu hKU hGs
              by_cases hbig : 512 < (σ (-1 - n)).length
              · obtain rfl : m3 = 513 := by omega
                have HBIG := Aside0.mk hbig
                clear hm3 hbig
                go_wp2_with fail
                refine CM.out.mono ?_
                rintro e w5 ⟨rfl, hB5, hK5, hb5⟩
                have Hb5 := Aside0.mk hb5
                clear CM hB5 hK5 hb5
                go_wp2_with fail
                go_ret2
                obtain ⟨rfl, rfl⟩ := HU.out [] 2 (.inr ⟨σ, HS.out.mgu, HS.out.out, .inl ⟨rfl, rfl, -1 - n, HMEM.out, by omega, HNE.out, HBIG.out⟩⟩)
                exact ⟨_, rfl, Kd.S_nil _ _ _ _ _, below_step HB1.out Hb5.out⟩
              · have hsm : (σ (-1 - n)).length ≤ 512 := by omega
                have hm4 : m3 ≤ 512 := by omega
                have HPU := Aside0.mk (HIT.out.push hi HIS.out HGI.out hsm (fun b m h => HS.out.laid.flat.var b m h) HS.out.nd)
                have hxl2 : xs.length ≤ i := HIT.out.len
                clear hm3 hbig
                go_wp2_with fail
                refine CM.out.mono ?_
                rintro e w5 ⟨rfl, hB5, hK5, hb5⟩
                have hs2 := HKr.out.1
                have hS5 : Kd.S k30 30 w5 w1.heap.size (fun k => w2.heap.size ≤ k) u11 xs := Kd.S_step HSX.out (fun k hk hlt => hK5.2 k hlt (fun hG => by
                  cases hGk : G k with
                  | none => simp only [hGk] at hG; cases hG
                  | some nd =>
                    have : k < w2.heap.size := by
                      cases nd with
                      | var n => exact blk_lt (HS.out.brd.var k n hGk)
                      | tree c ks A cap => exact blk_lt (HS.out.brd.tree k c ks A cap hGk)
                    omega))
                have HS5 := Aside0.mk hS5
                have HB5 := Aside0.mk hB5
                have HK5 := Aside0.mk (HKr.out.then_ hK5 (fun _ h => .inl h))
                have Hb5 := Aside0.mk hb5
                clear CM hB5 hK5 hb5 hS5 hs2
                go_wp2_with fail
                have hq0 := (blk_cell (HB5.out.var _ n HGI.out) 0).trans rfl
                have hB6 : UBoard G is sz3 w5.drew := HB5.out.kept (fun _ _ => rfl)
                have cRow := row_calls G is sz3 w5.drew hB6 KU vs[i] (σ (-1 - n)) w5.drew (.slice none 0 0) [] HKU.out (by simp only [List.length_nil]; omega) (Below.refl _ _) (Kd.R_nil _ _ _ _ _) (by rw [HGI.out]; rfl)
                rw [ifv_var HGI.out] at cRow
                have HB6 := Aside0.mk hB6
                have HS6 := Aside0.mk (Kd.S_drew HS5.out)
                have HK6 := Aside0.mk (HK5.out.drew)
                have Hb6 := Aside0.mk (below_drew Hb5.out)
                have HQ0 := Aside0.mk (show w5.drew.cell? ⟨vs[i], 0, none⟩ = some (.int .i64 n) from hq0)
                have HV0 := Aside0.mk (blk_lt (HB6.out.var _ n HGI.out))
                have CRow := Aside0.mk cRow
                have hs2 := HK6.out.1
                have HVL := Aside0.mk (blk_lt (HS.out.brd.var _ n HGI.out))
                clear hB6 cRow HS5 HB5 HK5 Hb5 hc1 heq hTd e3 HKU
                generalize hsg : σ (-1 - n) = tk at *
                go_wp2_with fail
                go_region_held3 (fun w' => w'.cell? ⟨vs[i], 0, none⟩ = some (.int .i64 n))
                  (first
                    | exact hq7
                    | exact hq8
                    | exact cell_on _ hq7
                    | (simp [*, go_sem, World.cell?_alloc_past]; done)
                    | (with_reducible assumption))
                  (first
                    | (go_at_call 42
                       refine CRow.out.mono ?_
                       rintro e w7 ⟨v7, rfl, hR7, hb7⟩
                       obtain ⟨A7, n7, c7, rfl⟩ := R_any hR7
                       have hq7 := cell_still (hb7.block _ HV0.out) HQ0.out
                       have HR7 := Aside0.mk hR7
                       have HB7 := Aside0.mk hb7
                       clear hR7 hb7 CRow)
                    | (refine Kd.S_append_step k30 (w0 := w1) w1.heap.size (by rfl) _ _ 25 30 (.agg #[.int .i64 0, .slice none 0 0]) 32 (by rfl) Tryd.underlying25 info30 (by rfl) (by decide) (by omega) u11 xs ⟨n, tk⟩ [.int .i64 n, .slice A7 n7 c7] (fun k => w2.heap.size ≤ k) (fun k => (w2.heap.size ≤ k ∧ some k ≠ u11.ownBlock) ∧ w5.drew.heap.size ≤ k) (by rfl) (by rfl)
                         (by
                           have hs7 := Hb6.out.size
                           have hs6 := HK6.out.1
                           exact k30_mkM _ _ _ ⟨n, tk⟩ (Kd.R_mono (Kd.R_lower (Kd.R_bound HR7.out) hs7) (fun k_ hk_ => ⟨⟨by have := hk_.2.1; omega, fun e_ => absurd (Kd.S_lt HS6.out k_ e_.symm) (by have := hk_.2.1; omega)⟩, hk_.2.1⟩)))
                         (fun _ hk => hk.1) (fun k_ hk_ => by have := HB7.out.size; have := HK6.out.1; omega)
                         (Kd.S_below (Kd.S_mono (Kd.S_bound HS6.out) (fun k_ hk_ => ⟨hk_.1, fun h_ => by have := hk_.2.2.1; have := h_.2; omega⟩)) HB7.out)
                         (below_step Hb6.out HB7.out) (below_step Hb6.out HB7.out).size (by omega) ?_
                       intro v8 w8 ho8 hb8 hg8 hat8
                       have hrow : ∀ k, u11.ownBlock = some k → w2.heap.size ≤ k := fun k hk => (Kd.S_R HS6.out).1 k hk
                       have hq8 := cell_still (hg8.block _ (Nat.lt_of_lt_of_le HV0.out HB7.out.size) (fun e_ => by have := hrow _ e_.symm; have := HVL.out; omega)) hq7
                       clear hrow))
                have hrow : ∀ k, u11.ownBlock = some k → w2.heap.size ≤ k := fun k hk => (Kd.S_R HS6.out).1 k hk
                have HB8 : Aside0 (UBoard G is sz3 w8) := ⟨HS.out.brd.kept2 (HB6.out.kept (fun b hb => HB7.out.block b hb)) (fun b hb => hg8.block b (by have := HK6.out.1; have := HB7.out.size; omega) (fun e_ => by have := hrow b e_.symm; omega))⟩
                have HK8 : Aside0 (Kept w2 w8 (fun k => (G k).isSome)) := ⟨Kept.of_grown hg8 (HK6.out.below HB7.out) (fun k hk => .inr (hrow k hk))⟩
                have HS8 := Aside0.mk ho8
                have Hb8 := Aside0.mk hb8
                clear ho8 hb8 hg8 hat8 hrow
                go_wp2_with fail
                go_roundg k1
                case measure => omega
                case rel => exact ⟨i + 1, sz3, _, by go_num, by omega, by omega, by simp only [List.length_append, List.length_cons, List.length_nil]; omega, HZ3.out, HSH3.out, HSV3.out, HB8.out, HK8.out, Hb8.out, HS8.out, HPU.out⟩
          · obtain rfl : i = vs.length := by omega
            have hkeys : ∀ x, x ∈ xs → 0 ≤ x.f0 ∧ x.f0 ≤ 1048576 := fun x hx => by
              obtain ⟨b, _, _, n, hG, rfl⟩ := (HIT.out.mem x).1 hx
              have := HS.out.brd.num b n hG
              exact ⟨this.1, by show n ≤ _; omega⟩
            have cS := sort_calls 43 (fun a b => a - b) (fun a b => by omega) (enters_of Tryd.func43 (by kernel_rfl) rfl) uclosure HSX.out hkeys (by omega)
            obtain ⟨A9, c9, hv9⟩ := Kd.S_slice HSX.out
            have hbs := Kd.S_base2 HSX.out
            have HBS := Aside0.mk hbs
            clear hbs hkeys
            subst hv9
            go_wp2_with (first | (go_at_call 34; refine cS.mono ?_; rintro e w3 ⟨rfl, ys, hp, hs, ho, hg⟩; replace hp := Aside0.mk hp; replace hs := Aside0.mk hs; replace ho := Aside0.mk ho; replace hg := Aside0.mk hg))
            go_ret2
            obtain ⟨rfl, rfl⟩ := HU.out ys 0 (HIT.out.ans HS.out hp.out hs.out)
            exact ⟨_, rfl, Kd.S_lower (Kd.S_mono ho.out (fun _ _ => trivial)) HB1.out.size, below_step HB1.out (Hbr.out.grown hg.out Hbr.out.size (fun k_ hk_ => by
              rcases HBS.out with h | ⟨b, h, h'⟩
              · rw [h] at hk_; cases hk_
              · rw [h] at hk_; cases hk_; exact h'))⟩
    · rw [if_pos hp] at cR
      have hne : (chk l0 l2 != 0) = true := bne_iff_ne.mpr ht
      have hv := hE.out
      rw [unifyR, if_neg (fun h => h hp), if_pos ht] at hv
      obtain ⟨rfl, rfl⟩ := Prod.mk.inj hv
      have CR := Aside0.mk cR
      clear h hr0 hr1 hr2 hc0 hc1 hc2 hT cR hg hp ht hE hv
      go_enter Tryd.func16, Tryd.ntmps16
      go_wp2_with fail
      refine CR.out.mono ?_
      rintro e w1 ⟨rfl, hb1⟩
      have HB1 := Aside0.mk hb1
      clear hb1
      go_wp2_with fail
      go_ret2
      exact ⟨_, rfl, Kd.S_nil _ _ _ _ _, HB1.out⟩
  · rw [if_neg hp] at cR
    have hne : (chk l0 l1 != 0) = true := bne_iff_ne.mpr hp
    have hv := hE.out
    rw [unifyR, if_pos hp] at hv
    obtain ⟨rfl, rfl⟩ := Prod.mk.inj hv
    have CR := Aside0.mk cR
    clear h hr0 hr1 hr2 hc0 hc1 hc2 hT cR hg hp hE hv
    go_enter Tryd.func16, Tryd.ntmps16
    go_wp2_with fail
    refine CR.out.mono ?_
    rintro e w1 ⟨rfl, hb1⟩
    have HB1 := Aside0.mk hb1
    clear hb1
    go_wp2_with fail
    go_ret2
    exact ⟨_, rfl, Kd.S_nil _ _ _ _ _, HB1.out⟩
end
end Go.Proofs.YtjckddaaeiffpaaDoor.Z
