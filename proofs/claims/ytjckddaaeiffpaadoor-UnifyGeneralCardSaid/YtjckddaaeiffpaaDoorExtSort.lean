/- slices.SortFunc at rows of binds (two cells an element): the row of one's own is permuted, and sorted. -/
import Derived.Test.YtjckddaaeiffpaaDoorZ0
import Derived.Test.YtjckddaaeiffpaaDoorShelf
import Derived.Shelf.SlSortCmp.NoneTotal
import Derived.Outline
namespace Go.Proofs.YtjckddaaeiffpaaDoor.Z
open Go.RowKit Go.Proofs.YtjckddaaeiffpaaDoorW.PrintWords Go.Proofs.YtjckddaaeiffpaaDoorW.PrintLast Go.Proofs.YtjckddaaeiffpaaDoorW.PrintMore
attribute [local go_sem] max2_int min2_int max_two min_two max_three min_three max_four min_four   -- for this text's walks alone
set_option linter.unusedVariables false
set_option linter.unusedSimpArgs false

open Go.Sort
/-- A key with a cell. -/
structure KV where
  key : Int
  lo : 0 ≤ key
  hi : key ≤ 1048576
  cell : { v : Value // v.oneCell' = true }
def encKV (x : KV) : List Value := [.int .i64 x.key, x.cell.1]
instance : Inhabited KV := ⟨⟨0, by omega, by omega, .nilIface, rfl⟩⟩
def flatKV (l : List KV) : List Value := l.flatMap encKV
theorem flatKV_length (l : List KV) : (flatKV l).length = l.length * 2 := by
  induction l with
  | nil => rfl
  | cons x r ih => simp only [flatKV, List.flatMap_cons, List.length_append, List.length_cons] at *; rw [ih]; simp [encKV]; omega
theorem flatKV_get (l : List KV) (j q : Nat) (hj : j < l.length) (hq : q < 2) : (flatKV l)[j * 2 + q]? = (encKV l[j])[q]? := by
  induction l generalizing j with
  | nil => simp at hj
  | cons x r ih =>
    rw [flatKV, List.flatMap_cons]
    cases j with
    | zero => rw [List.getElem?_append_left (by simp [encKV]; omega)]; simp
    | succ j =>
      rw [List.getElem?_append_right (by simp [encKV]; omega)]
      have := ih j (by simpa using hj)
      rw [flatKV] at this
      rw [show (j + 1) * 2 + q - (encKV x).length = j * 2 + q by simp [encKV]; omega, this]
      simp
theorem flatK_flat (l : List KV) : (flatK encKV 2 l.toArray).toList = flatKV l := by
  apply List.ext_getElem?
  intro i
  by_cases hi : i < l.length * 2
  · have h1 := flatKV_get l (i / 2) (i % 2) (by omega) (by omega)
    rw [Nat.div_add_mod' i 2] at h1
    rw [h1]
    have h2 : i / 2 < l.length := by omega
    have h3 : (encKV l[i / 2]).length = 2 := rfl
    simp [flatK, hi, h2]
    rw [List.getElem?_eq_getElem (by omega)]
    simp
  · rw [List.getElem?_eq_none (by simp; omega), List.getElem?_eq_none (by rw [flatKV_length]; omega)]
theorem kv_sorted {w : World} {base g cap n : Nat} {e : TypeId} {os : Array Obj} {cur : Array Value} {l : List KV} (hbase : base ≤ g) (hb : w.heap[g]? = some (.cells cur e (0, 0)))
    (h1 : l.length ≤ cap) (h2 : cap ≤ maxLen) (h3 : cur.size = cap * 2) :
    (sortWorldK encKV 2 w g 0 n l.toArray os).ownsRow base e 2 (.slice (some ⟨g, 0, none⟩) l.length cap) l.length (flatKV l) := by
  have hg : g < w.heap.size := (Array.getElem?_eq_some_iff.1 hb).1
  refine ⟨flatKV_length l, .inr ⟨g, cap, putCells id 0 (flatK encKV 2 l.toArray) cur, rfl, hbase, ?_, h1, h2, by simp [putCells, h3], ?_⟩⟩
  · unfold sortWorldK putRowK
    rw [heap_grow_old _ _ (by simpa using hg)]
    simp [putRow, mapBlock, Sort.ahead, Array.getElem?_modify, hb, onCells]
  · rw [← flatK_flat]
    apply List.ext_getElem?
    intro j
    by_cases hj : j < l.length * 2
    · rw [List.getElem?_take_of_lt hj, Array.getElem?_toList, Array.getElem?_toList]
      have hs : (flatK encKV 2 l.toArray).size = l.length * 2 := by simp
      have hc : j < cur.size := by omega
      simp only [putCells, Array.getElem?_mapIdx, Array.getElem?_eq_getElem hc, Option.map_some, Nat.zero_le, true_and, Nat.zero_add, Nat.sub_zero, id]
      rw [if_pos (by omega), getElem!_pos _ j (by omega), Array.getElem?_eq_getElem (by omega)]
    · rw [List.getElem?_take_eq_none (by omega), List.getElem?_eq_none (by simp; omega)]
theorem grownBy_kv {w : World} {g n : Nat} {os : Array Obj} (d : Array KV) : w.grownBy (sortWorldK encKV 2 w g 0 n d os) (some g) := by
  refine ⟨rfl, rfl, rfl, by simp [sortWorldK, putRowK], fun k hk hne => ?_⟩
  unfold sortWorldK putRowK
  rw [heap_grow_old _ _ (by simpa using hk)]
  have : g ≠ k := fun e => hne (by rw [e])
  simp [putRow, mapBlock, Sort.ahead, Array.getElem?_modify, this]
theorem isAgg30 (w : World) : (isAgg 30).run Tryd.prog w = .ok true w := by kernel_rfl
theorem sizeOf30 (w : World) : (Go.sizeOf 30).run Tryd.prog w = .ok 2 w := by kernel_rfl
theorem perm_lift {α β : Type} (f : α → β) {l' m : List β} (h : l'.Perm m) : ∀ zs : List α, zs.map f = m → ∃ zs' : List α, zs'.Perm zs ∧ zs'.map f = l' := by
  induction h with
  | nil => intro zs hz; exact ⟨zs, .refl _, by rw [hz]⟩
  | @cons x l1 l2 hp ih =>
    intro zs hz
    cases zs with
    | nil => simp at hz
    | cons z r =>
      simp only [List.map_cons, List.cons.injEq] at hz
      obtain ⟨r', h1, h2⟩ := ih r hz.2
      exact ⟨z :: r', h1.cons z, by simp [hz.1, h2]⟩
  | swap x y l =>
    intro zs hz
    match zs, hz with
    | a :: b :: r, hz =>
      simp only [List.map_cons, List.cons.injEq] at hz
      exact ⟨b :: a :: r, List.Perm.swap _ _ _, by simp [hz.1, hz.2.1, hz.2.2]⟩
  | trans h1 h2 ih1 ih2 =>
    intro zs hz
    obtain ⟨z1, p1, e1⟩ := ih2 zs hz
    obtain ⟨z2, p2, e2⟩ := ih1 z1 e1
    exact ⟨z2, p2.trans p1, e2⟩
section
variable {α : Type} {d : Kd α} {key : α → Int}
theorem kv_of (hsz : d.sz = 2) (hop : ∀ {w : World} {base : Nat} {ok : Nat → Prop} {x : α} {cs : List Value}, d.M w base ok x cs → ∃ v1, cs = [.int .i64 (key x), v1]) {w : World} {base : Nat} {ok : Nat → Prop} : ∀ {xs : List α} {inner : List Value}, Reps (d.M w base ok) 2 xs inner → (∀ x, x ∈ xs → 0 ≤ key x ∧ key x ≤ 1048576) →
    ∃ zs : List (α × KV), zs.map (·.1) = xs ∧ flatKV (zs.map (·.2)) = inner ∧ ∀ z, z ∈ zs → z.2.key = key z.1 ∧ d.M w base ok z.1 (encKV z.2) := by
  intro xs
  induction xs with
  | nil =>
    intro inner h _
    have : inner = [] := List.eq_nil_of_length_eq_zero (by have := h.1; simpa using this)
    subst this
    exact ⟨[], rfl, rfl, fun z hz => by simp at hz⟩
  | cons x r ih =>
    intro inner h hb
    have h0 := h.2 0 x rfl
    rw [Nat.zero_mul, List.drop_zero] at h0
    obtain ⟨v1, e⟩ := hop h0
    have h1 := d.K_one (d.K_of_M h0)
    have hr : Reps (d.M w base ok) 2 r (inner.drop 2) := by
      refine ⟨by rw [List.length_drop, h.1]; simp; omega, fun j p hj => ?_⟩
      have := h.2 (j + 1) p (by simpa using hj)
      rwa [show (j + 1) * 2 = 2 + j * 2 by omega, ← List.drop_drop] at this
    obtain ⟨zs, e1, e2, e3⟩ := ih hr (fun y hy => hb y (List.mem_cons_of_mem _ hy))
    have hbx := hb x List.mem_cons_self
    refine ⟨(x, ⟨key x, hbx.1, hbx.2, v1, h1 v1 (by rw [e]; simp)⟩) :: zs, by simp [e1], ?_, ?_⟩
    · rw [List.map_cons, flatKV, List.flatMap_cons]
      rw [flatKV] at e2
      rw [e2]
      show [Value.int .i64 (key x), v1] ++ inner.drop 2 = inner
      rw [← e, List.take_append_drop]
    · intro z hz
      rcases List.mem_cons.1 hz with rfl | hz
      · refine ⟨rfl, ?_⟩
        show d.M w base ok x [Value.int .i64 (key x), v1]
        rw [← e]
        exact h0
      · exact e3 z hz
theorem reps_kv {w : World} {base : Nat} {ok : Nat → Prop} (zs : List (α × KV)) (h : ∀ z, z ∈ zs → d.M w base ok z.1 (encKV z.2)) : Reps (d.M w base ok) 2 (zs.map (·.1)) (flatKV (zs.map (·.2))) := by
  refine ⟨by rw [flatKV_length]; simp, fun j p hj => ?_⟩
  have hl : j < zs.length := by
    have := (List.getElem?_eq_some_iff.1 hj).1
    simpa using this
  have hp : p = zs[j].1 := by
    rw [List.getElem?_map, List.getElem?_eq_getElem hl] at hj
    simpa using hj.symm
  have e : ((flatKV (zs.map (·.2))).drop (j * 2)).take 2 = encKV zs[j].2 := by
    apply List.ext_getElem?
    intro q
    by_cases hq : q < 2
    · rw [List.getElem?_take_of_lt hq, List.getElem?_drop, flatKV_get _ j q (by simpa using hl) hq]
      simp
    · rw [List.getElem?_take_eq_none (by omega), List.getElem?_eq_none (by simp [encKV]; omega)]
  rw [e, hp]
  exact h _ (List.getElem_mem hl)
end
theorem swo_key {cf : Int → Int → Int} (hlt : ∀ a b, cf a b < 0 ↔ a < b) : SWO (ltOf fun x y : KV => cf x.key y.key) where
  irrefl x := by simp [ltOf, hlt]
  trans x y z h1 h2 := by simp [ltOf, hlt] at *; omega
  ntrans x y z h1 h2 := by simp [ltOf, hlt] at *; omega
/-- slices.SortFunc at a row of binds of the call's own. -/
theorem sort_callsK {α : Type} {dk : Kd α} {key : α → Int} (hsz : dk.sz = 2) (hop : ∀ {w : World} {base : Nat} {ok : Nat → Prop} {x : α} {cs : List Value}, dk.M w base ok x cs → ∃ v1, cs = [.int .i64 (key x), v1]) (g : Nat) (cf : Int → Int → Int) (hlt : ∀ a b, cf a b < 0 ↔ a < b) (eg : ∀ args w, (callFunc g args).run Tryd.prog w = .ok (.enter g args) w)
    (hcmp : ∀ (W : World) (x y : KV), Calls Tryd.prog g #[.agg (encKV x).toArray, .agg (encKV y).toArray] W fun e w' => e = .returned (.int .i64 (cf x.key y.key)) ∧ ∃ q os', w' = grow (W.drewN q) os')
    {w : World} {base : Nat} {ok : Nat → Prop} {v : Value} {xs : List α} (hR : Kd.R dk 30 w base ok v xs) (hb : ∀ x, x ∈ xs → 0 ≤ key x ∧ key x ≤ 1048576) (hlen : xs.length < 4611686018427387904) :
    Calls Tryd.prog 34 #[v, .func (.func g) #[] #[]] w fun e w' => e = .returned (.tuple #[]) ∧ ∃ ys, ys.Perm xs ∧ ys.Pairwise (fun a b => key a ≤ key b) ∧ Kd.R dk 30 w' base ok v ys ∧ w.grownBy w' v.ownBlock := by
  obtain ⟨h0, inner, ho, hr⟩ := hR
  rw [hsz] at ho hr
  rcases hn : xs.length with _ | n
  · have hx : xs = [] := List.eq_nil_of_length_eq_zero hn
    subst hx
    obtain ⟨p, cap, rfl⟩ : ∃ p cap, v = .slice p 0 cap := by
      rcases ho.2 with ⟨h1, _⟩ | ⟨g', cap, cur, h1, _⟩
      · exact ⟨_, _, h1⟩
      · exact ⟨_, _, h1⟩
    exact (AnyF.slices_SortFunc_none Tryd.laysSort p cap _ w).mono (by
      rintro e w' ⟨rfl, rfl⟩
      exact ⟨rfl, [], .refl _, List.Pairwise.nil, ⟨h0, inner, by rw [hsz]; exact ho, by rw [hsz]; exact hr⟩, ⟨rfl, rfl, rfl, Nat.le_refl _, fun _ _ _ => rfl⟩⟩)
  · rcases ho.2 with ⟨_, h2⟩ | ⟨g', cap, cur, rfl, h2, h3, h4, h5, h6, h7⟩
    · omega
    · obtain ⟨zs, rfl, rfl, hz⟩ := kv_of hsz hop hr hb
      rw [List.length_map] at h4 h7 hlen
      replace h7 : cur.toList.take (zs.length * 2) = flatKV (zs.map (·.2)) := h7
      have hsq : ((zs.map (·.2)).toArray).size = zs.length := by simp
      have hH : HoldsK encKV 2 w g' 0 (zs.map (·.2)).toArray := by
        intro j hj
        have hj2 : j < zs.length * 2 := by simpa using hj
        refine ⟨?_, blk_frozen h3 _⟩
        rw [Nat.zero_add, blk_cell h3 j]
        have e1 : (flatKV (zs.map (·.2)))[j]? = cur[j]? := by
          rw [← h7, List.getElem?_take_of_lt hj2, Array.getElem?_toList]
        rw [← e1, ← flatK_flat, Array.getElem?_toList, Array.getElem?_eq_getElem hj, getElem!_pos _ j hj]
        rfl
      have hc := AnyQ.slices_SortFunc Tryd.laysSort 2 isAgg30 sizeOf30 encKV (fun _ => rfl) (fun x u hu => by
          simp only [encKV, List.mem_cons, List.not_mem_nil, or_false] at hu
          rcases hu with rfl | rfl
          · rfl
          · exact x.cell.2) (fun x y => cf x.key y.key) (swo_key hlt) g #[] g' 0 cap (zs.map (·.2)).toArray w eg (fun m os dk _ x y => hcmp _ x y) hH (blk_lt h3) (by simpa using hlen)
      rw [hsq] at hc
      rw [List.length_map]
      refine hc.mono ?_
      rintro e w' ⟨rfl, d', m, os, hp, hs, rfl⟩
      have hps : d'.size = zs.length := by rw [hp.1]; simp
      have hpp : d'.toList.Perm (zs.map (·.2)) := by
        have h8 := hp.2.2
        rw [show d'.extract 0 zs.length = d' from by rw [← hps]; simp] at h8
        rw [show (zs.map (·.2)).toArray.extract 0 zs.length = (zs.map (·.2)).toArray from by rw [← hsq]; exact Array.extract_size] at h8
        exact h8
      obtain ⟨zs', hp1, hp2⟩ := perm_lift (·.2) hpp zs rfl
      have hl' : zs'.length = zs.length := hp1.length_eq
      have hd : d' = (zs'.map (·.2)).toArray := by rw [hp2]
      have hown := kv_sorted (n := m) (os := os) (l := zs'.map (·.2)) h2 h3 (by rw [List.length_map, hl']; exact h4) h5 h6
      rw [← hd] at hown
      refine ⟨rfl, zs'.map (·.1), hp1.map _, ?_, ⟨h0, flatKV (zs'.map (·.2)), ?_, by rw [hsz]; exact reps_kv zs' (fun z hz' => Kd.M_grown (hz z (hp1.mem_iff.1 hz')).2 (grownBy_kv d') (fun k hk => hk.2))⟩, grownBy_kv d'⟩
      · rw [List.pairwise_iff_getElem]
        intro i j hi hj hij
        rw [List.length_map] at hi hj
        have h9 := hs i j (Nat.zero_le _) hij (by omega)
        rw [hd] at h9
        simp only [ltOf, decide_eq_false_iff_not, hlt] at h9
        rw [getElem!_pos _ j (by simpa using hj), getElem!_pos _ i (by simpa using hi)] at h9
        simp only [List.getElem_toArray, List.getElem_map] at h9 ⊢
        have k1 := (hz zs'[i] (hp1.mem_iff.1 (List.getElem_mem hi))).1
        have k2 := (hz zs'[j] (hp1.mem_iff.1 (List.getElem_mem hj))).1
        omega
      · rw [hsz]
        rw [List.length_map, hl'] at hown ⊢
        exact hown
theorem nodup_zip {α : Type} (xs : List α) : (xs.zipIdx.map (·.2)).Nodup := by
  rw [List.zipIdx_map_snd]
  exact List.nodup_range'
open Classical in
theorem S_of_perm {α : Type} {d : Kd α} {e : Nat} {w : World} {base : Nat} {ok : Nat → Prop} {v : Value} {f : Nat → Nat} {ys : List (α × Nat)} (h : (Kd.tag f d).R e w base ok v ys) (hn : (ys.map (·.2)).Nodup) : Kd.S d e w base ok v (ys.map (·.1)) := by
  obtain ⟨h0, inner, ho, hr⟩ := h
  refine ⟨fun k => (ys.map (·.2)).idxOf (f k), h0, inner, by rw [List.length_zipIdx, List.length_map]; exact ho, by have := hr.1; rw [List.length_zipIdx, List.length_map]; exact this, fun m p hm => ?_⟩
  rw [List.getElem?_zipIdx, Nat.zero_add, List.getElem?_map] at hm
  obtain ⟨q, hq, rfl⟩ := Option.map_eq_some_iff.1 hm
  obtain ⟨y, hy, rfl⟩ := Option.map_eq_some_iff.1 hq
  refine d.M_mono (fun k hk => ⟨hk.1, ?_⟩) (hr.2 m y hy)
  have hml : m < ys.length := (List.getElem?_eq_some_iff.1 hy).1
  have e1 : f k = (ys.map (·.2))[m]'(by simpa using hml) := by
    rw [hk.2]
    simp only [List.getElem_map]
    rw [List.getElem?_eq_getElem hml] at hy
    injection hy with hy
    rw [hy]
  show (ys.map (·.2)).idxOf (f k) = m
  rw [e1]
  exact List.Nodup.idxOf_getElem hn m (by simpa using hml)
theorem sort_calls (g : Nat) (cf : Int → Int → Int) (hlt : ∀ a b, cf a b < 0 ↔ a < b) (eg : ∀ args w, (callFunc g args).run Tryd.prog w = .ok (.enter g args) w)
    (hcmp : ∀ (W : World) (x y : KV), Calls Tryd.prog g #[.agg (encKV x).toArray, .agg (encKV y).toArray] W fun e w' => e = .returned (.int .i64 (cf x.key y.key)) ∧ ∃ q os', w' = grow (W.drewN q) os')
    {w : World} {base : Nat} {ok : Nat → Prop} {v : Value} {xs : List S30} (hR : Kd.S k30 30 w base ok v xs) (hb : ∀ x, x ∈ xs → 0 ≤ x.f0 ∧ x.f0 ≤ 1048576) (hlen : xs.length < 4611686018427387904) :
    Calls Tryd.prog 34 #[v, .func (.func g) #[] #[]] w fun e w' => e = .returned (.tuple #[]) ∧ ∃ ys, ys.Perm xs ∧ ys.Pairwise (fun a b => a.f0 ≤ b.f0) ∧ Kd.S k30 30 w' base ok v ys ∧ w.grownBy w' v.ownBlock := by
  obtain ⟨f, hR⟩ := hR
  refine (sort_callsK (dk := Kd.tag f k30) (key := fun x => x.1.f0) rfl (fun h => ?_) g cf hlt eg hcmp hR (fun x hx => ?_) (by rw [List.length_zipIdx]; exact hlen)).mono ?_
  · obtain ⟨v1, e, _⟩ := k30_openM h
    exact ⟨v1, e⟩
  · obtain ⟨a, b⟩ := x
    exact hb a (List.fst_mem_of_mem_zipIdx hx)
  · rintro e w' ⟨rfl, ys, hp, hs, hR', hg⟩
    refine ⟨rfl, ys.map (·.1), ?_, List.pairwise_map.2 hs, S_of_perm hR' ((hp.map _).nodup_iff.2 (nodup_zip xs)), hg⟩
    have := hp.map (·.1)
    rwa [List.zipIdx_map_fst] at this
end Go.Proofs.YtjckddaaeiffpaaDoor.Z
