/- (match.Match): a given function of the print: what is matched, and with which binds. -/
import Derived.Test.YtjckddaaeiffpaaDoorZ0
import Derived.Test.YtjckddaaeiffpaaDoorZ0a
import Derived.Test.YtjckddaaeiffpaaDoorZ0d
import Derived.Test.YtjckddaaeiffpaaDoorExtClone
import Derived.Test.YtjckddaaeiffpaaDoorExtMap
import Derived.Test.YtjckddaaeiffpaaDoorExtName
import Derived.Test.YtjckddaaeiffpaaDoorExtSig
import Derived.Test.YtjckddaaeiffpaaDoorExtSort
import Derived.Test.YtjckddaaeiffpaaDoorExtTree
import Derived.Test.YtjckddaaeiffpaaDoorPureTerm
import Derived.Outline
namespace Go.Proofs.YtjckddaaeiffpaaDoor.Z
open Go.RowKit Go.Proofs.YtjckddaaeiffpaaDoorW.PrintWords Go.Proofs.YtjckddaaeiffpaaDoorW.PrintLast Go.Proofs.YtjckddaaeiffpaaDoorW.PrintMore
attribute [local go_sem] max2_int min2_int max_two min_two max_three min_three max_four min_four   -- for this text's walks alone
set_option linter.unusedVariables false
set_option linter.unusedSimpArgs false

open Go.Sort
def lookB (l : List S30) (v : Int) : Option (List Int) := (l.find? (fun x => x.f0 == v)).map (·.f1)
/-- How many codes the first n terms of a row have. -/
def reachN (sig : List S85) : List Int → Nat → Nat
  | _, 0 => 0
  | [], _ + 1 => 0
  | c :: r, n + 1 => 1 + (if c < 0 then reachN sig r n else reachN sig r (n + ari sig c))
def matchGo (sig : List S85) : List Int → List Int → List S30 → Option (List S30)
  | [], _, l => some l
  | c :: p, t, l =>
    if c ≥ 0 then (if rd t 0 = c then matchGo sig p (t.drop 1) l else none)
    else match lookB l (-1 - c) with
      | none => matchGo sig p (t.drop (reachN sig t 1)) (l ++ [⟨-1 - c, t.take (reachN sig t 1)⟩])
      | some u => if u = t.take (reachN sig t 1) then matchGo sig p (t.drop (reachN sig t 1)) l else none
def sortB (l : List S30) : List S30 := l.mergeSort (fun a b => decide (a.f0 ≤ b.f0))
def matchF (sig : List S85) (p t : List Int) : List S30 × Bool :=
  if chk sig p = 0 ∧ chk sig t = 0 then (match matchGo sig p t [] with | none => ([], false) | some l => (sortB l, true)) else ([], false)
theorem terms_reach (sig : List S85) : ∀ (u : List Int) (n : Nat) (v : List Int), Terms sig n u → reachN sig (u ++ v) n = u.length := by
  intro u
  induction u with
  | nil =>
    intro n v h
    cases h
    cases v <;> rfl
  | cons c r ih =>
    intro n v h
    cases h with
    | var _ h1 h2 ht => rw [List.cons_append, reachN, if_pos h1, ih _ v ht, List.length_cons, Nat.add_comm]
    | app _ h1 h2 ht => rw [List.cons_append, reachN, if_neg (by omega), ih _ v ht, List.length_cons, Nat.add_comm]
theorem grow_two (W : World) (a b : Obj) (n : Nat) : ((W.alloc a).alloc b).drewN n = grow (W.drewN n) #[a, b] := by
  unfold grow World.alloc World.drewN
  congr 1
theorem cut_drop (A : Option Addr) (c : Nat) (xs : List Int) (j : Int) (h0 : 0 ≤ j) (hm : j ≤ xs.length) (hc : xs.length ≤ c) :
    ∃ A' : Option Addr, (∀ W : World, (Instr.slice 23 (.slice A xs.length c) (some (.int .i64 j)) none none).run Tryd.prog W = .ok (.slice A' (xs.drop j.toNat).length (c - j.toNat)) W) ∧
      (∀ w : World, Kd.C (Kd.int .i64) w A xs.length xs → Kd.C (Kd.int .i64) w A' (xs.drop j.toNat).length (xs.drop j.toNat)) ∧ (xs.drop j.toNat).length ≤ c - j.toNat := by
  obtain ⟨i0, hi, hzz⟩ := Option.map_eq_some_iff.1 info3
  simp only [Prod.mk.injEq] at hzz
  obtain ⟨A', h1, h2, h3⟩ := print_drop_of (P := Tryd.prog) (Value.int .i64) (0 : Int) 23 3 .i64 Tryd.underlying23 hi hzz.2.1 A c xs j h0 hm hc
  exact ⟨A', h1, fun w h => Kd.C_of_reads (h2 w (Kd.reads_of_C h)), h3⟩
theorem cut_take (A : Option Addr) (c : Nat) (xs : List Int) (j : Int) (h0 : 0 ≤ j) (hm : j ≤ xs.length) (hc : xs.length ≤ c) :
    (∀ W : World, (Instr.slice 23 (.slice A xs.length c) none (some (.int .i64 j)) none).run Tryd.prog W = .ok (.slice A (xs.take j.toNat).length c) W) ∧
      (∀ w : World, Kd.C (Kd.int .i64) w A xs.length xs → Kd.C (Kd.int .i64) w A (xs.take j.toNat).length (xs.take j.toNat)) ∧ (xs.take j.toNat).length ≤ c := by
  obtain ⟨i0, hi, hzz⟩ := Option.map_eq_some_iff.1 info3
  simp only [Prod.mk.injEq] at hzz
  obtain ⟨h1, h2, h3⟩ := print_take_of (P := Tryd.prog) (Value.int .i64) (0 : Int) 23 3 .i64 Tryd.underlying23 hi hzz.2.1 A c xs j h0 hm hc
  exact ⟨h1, fun w h => Kd.C_of_reads (h2 w (Kd.reads_of_C h)), h3⟩
theorem cmpInt_lt (a b : Int) : Lib.compareInt a b < 0 ↔ a < b := by
  unfold Lib.compareInt
  by_cases h1 : a < b
  · simp [h1]
  · by_cases h2 : b < a <;> simp [h1, h2]
theorem compare_is (a b : Int) : cmp_Compare_int.f a b = some (Lib.compareInt a b) := by
  have hn : ∀ x : Int, cmp_isNaN_int.f x = some false := fun x => by unfold cmp_isNaN_int.f; simp
  unfold cmp_Compare_int.f Lib.compareInt
  simp only [hn, Option.bind_some, Bool.false_eq_true, if_false]
  by_cases h1 : a < b
  · simp [h1]
  · by_cases h2 : b < a <;> simp [h1, h2]
set_option maxHeartbeats 4000000 in
set_option maxRecDepth 100000 in
theorem cmp_closure (W : World) (x y : KV) : Calls Tryd.prog 35 #[.agg (encKV x).toArray, .agg (encKV y).toArray] W fun e w' => e = .returned (.int .i64 (Lib.compareInt x.key y.key)) ∧ ∃ q os', w' = grow (W.drewN q) os' := by
  have hu30 := Tryd.underlying30
  have cC := fun w => cmp_Compare_int.calls x.key y.key (Lib.compareInt x.key y.key) w (compare_is _ _)
  generalize Lib.compareInt x.key y.key = r at *
  unfold encKV
  obtain ⟨kx, _, _, ⟨sx, hsx⟩⟩ := x
  obtain ⟨ky, _, _, ⟨sy, hsy⟩⟩ := y
  simp only at cC ⊢
  go_enter Tryd.func35, Tryd.ntmps35
  go_wp2_with (first | (go_at_call 36; refine (cC _).mono ?_; rintro e w' ⟨rfl, ⟨nd, rfl⟩⟩))
  go_ret
  refine ⟨rfl, nd, #[.cells #[.int .i64 kx, sx] 30 (0, 0), .cells #[.int .i64 ky, sy] 30 (0, 0)], ?_⟩
  exact grow_two _ _ _ _
set_option maxRecDepth 100000 in
theorem ta_sign (v : Value) (W : World) : (Instr.typeAssert (.iface 51 v) 49 51 true).run Tryd.prog W = .ok (.tuple #[v, .bool true]) W := by rfl
set_option maxRecDepth 100000 in
theorem ta_hole (v : Value) (W : World) : (Instr.typeAssert (.iface 53 v) 49 51 true).run Tryd.prog W = .ok (.tuple #[.int .i64 0, .bool false]) W := by rfl
set_option maxRecDepth 100000 in
theorem ta_hole2 (v : Value) (W : World) : (Instr.typeAssert (.iface 53 v) 49 53 false).run Tryd.prog W = .ok v W := by rfl
theorem addr_zero (a : Addr) : a.add 0 = a := by simp [Addr.add]
theorem part_calls (c : Int) (w : World) (h : -1048576 ≤ c) : Calls Tryd.prog 30 #[.int .i64 c] w fun e w' => e = .returned (if c < 0 then .iface 53 (.int .i64 (-1 - c)) else .iface 51 (.int .i64 c)) ∧ w = w' := by
  by_cases hc : c < 0
  · rw [if_pos hc]
    go_enter Tryd.func30, Tryd.ntmps30
    go_wp2
    go_ret
    exact ⟨rfl, rfl⟩
  · rw [if_neg hc]
    go_enter Tryd.func30, Tryd.ntmps30
    go_wp2
    go_ret
    exact ⟨rfl, rfl⟩
theorem Terms.le {sig : List S85} {n : Nat} {t : List Int} (h : Terms sig n t) : n ≤ t.length := by
  induction h with
  | nil => exact Nat.le_refl _
  | var c h1 h2 ht ih => simp only [List.length_cons]; omega
  | app c h1 h2 ht ih => simp only [List.length_cons]; omega
theorem w64 {x : Int} (h0 : -9223372036854775808 ≤ x) (h1 : x ≤ 9223372036854775807) : wrap64 x = x := IntWalk.wrap64_in x ⟨h0, h1⟩
theorem reach_l0 (sig : List S85) (har : arOk sig) (t : List Int) (hl : t.length ≤ 17592186044416) : ∀ (d a o m k : Nat), t.length = a + d → d < k → Terms sig (o + m) (t.drop a) → match_reach.l0 k sig t a o = some ((a + reachN sig (t.drop a) o : Nat) : Int) := by
  intro d
  induction d with
  | zero =>
    intro a o m k hd hk ht
    obtain ⟨k, rfl⟩ : ∃ k', k = k' + 1 := ⟨k - 1, by omega⟩
    rw [List.drop_eq_nil_of_le (by omega)] at ht ⊢
    generalize hom : o + m = om at ht
    cases ht
    obtain rfl : o = 0 := by omega
    rw [match_reach.l0, if_neg (by simp)]
    rfl
  | succ d ih =>
    intro a o m k hd hk ht
    obtain ⟨k, rfl⟩ : ∃ k', k = k' + 1 := ⟨k - 1, by omega⟩
    have hle := ht.le
    rw [List.length_drop] at hle
    cases o with
    | zero => rw [match_reach.l0, if_neg (by simp), reachN.eq_1]; rfl
    | succ o =>
      rw [drop_cons (show a < t.length by omega)] at ht ⊢
      rw [show o + 1 + m = (o + m) + 1 by omega] at ht
      rw [match_reach.l0, if_pos (by omega), if_pos (by omega), if_pos (by omega), w64 (x := (a : Int) + 1) (by omega) (by omega)]
      cases ht with
      | var _ h1 h2 h3 =>
        rw [if_neg (by omega), w64 (by omega) (by omega), show ((a : Int) + 1) = ((a + 1 : Nat) : Int) by omega, show (((o + 1 : Nat) : Int) - 1) = (o : Int) by omega,
          ih (a + 1) o m k (by omega) (by omega) h3, reachN, if_pos h1]
        congr 1
        omega
      | app _ h1 h2 h3 =>
        have hle3 := h3.le
        rw [List.length_drop] at hle3
        have hA := har (rd t a).toNat (by omega)
        rw [Int.toNat_of_nonneg h1] at hA
        have hA2 : ((ari sig (rd t a) : Nat) : Int) = (rd_T85 sig (rd t a)).f1 := by unfold ari; omega
        rw [if_pos (by omega), if_pos h1, if_pos h2, ← hA2, w64 (x := ((o + 1 : Nat) : Int) + _) (by omega) (by omega), w64 (by omega) (by omega), show ((a : Int) + 1) = ((a + 1 : Nat) : Int) by omega,
          show (((o + 1 : Nat) : Int) + (ari sig (rd t a) : Nat) - 1) = ((o + ari sig (rd t a) : Nat) : Int) by omega, ih (a + 1) (o + ari sig (rd t a)) m k (by omega) (by omega) (by rw [show o + ari sig (rd t a) + m = o + m + ari sig (rd t a) by omega]; exact h3), reachN, if_neg (by omega)]
        congr 1
        omega
/-- reach, over terms. -/
theorem reach_calls (l0 : List S85) (l1 : List Int) (A0 A1 : Option Addr) (c0 c1 n : Nat) (w : World) (har : arOk l0) (hs : l0.length ≤ 128) (ht : Terms l0 (n + 1) l1) (hr0 : Kd.C k85 w A0 l0.length l0) (hc0 : l0.length ≤ c0) (hr1 : Kd.C (Kd.int .i64) w A1 l1.length l1) (hc1 : l1.length ≤ c1) (hl : l1.length ≤ 17592186044416) :
    Calls Tryd.prog 31 #[.slice A0 l0.length c0, .slice A1 l1.length c1] w fun e w' => e = .returned (.int .i64 (reachN l0 l1 1 : Nat)) ∧ Drawn0 w w' := by
  have h := reach_l0 l0 har l1 hl l1.length 0 1 n (l1.length + 1) (by omega) (by omega) (by rw [List.drop_zero, Nat.add_comm]; exact ht)
  rw [List.drop_zero, Nat.zero_add] at h
  exact match_reach.calls (l1.length + 1) A0 c0 l0 A1 c1 l1 _ w hr0 hc0 hr1 hc1 h
/-- What holds at the head of each round of Match's loop. -/
structure MInv (sig : List S85) (p t : List Int) (w : World) (B i n : Nat) (t' : List Int) (l : List S30) (A2 : Option Addr) (c2 : Nat) (v9 : Value) (wx : World) : Prop where
  run : matchGo sig p t [] = matchGo sig (p.drop i) t' l
  tp : Terms sig n (p.drop i)
  tt : Terms sig n t'
  rdt : Kd.C (Kd.int .i64) w A2 t'.length t'
  cap : t'.length ≤ c2
  len : t'.length ≤ t.length
  own : Kd.S k30 30 wx w.heap.size (fun k => k ≠ B) v9 l
  keys : ∀ x, x ∈ l → 0 ≤ x.f0 ∧ x.f0 ≤ 1048576
  nd : (l.map (·.f0)).Nodup
  hB : w.heap.size ≤ B
  bel : Below w.heap.size w wx
  map : ∃ m, MapI wx B i m ∧ ∀ v, (lookB l v = none → m v = none) ∧ ∀ u, lookB l v = some u → ∃ A c, m v = some (.slice A u.length c) ∧ u.length ≤ c ∧ Kd.C (Kd.int .i64) w A u.length u
theorem lookB_snoc (l : List S30) (x : S30) (v : Int) : lookB (l ++ [x]) v = match lookB l v with | some u => some u | none => if x.f0 = v then some x.f1 else none := by
  unfold lookB
  rw [List.find?_append]
  cases h : l.find? (fun x => x.f0 == v) with
  | some y => simp
  | none =>
    simp only [Option.none_or, Option.map_none]
    by_cases hx : x.f0 = v
    · rw [if_pos hx]; simp [hx]
    · rw [if_neg hx]; simp [hx]
theorem lookB_none {l : List S30} {v : Int} (h : lookB l v = none) : v ∉ l.map (·.f0) := by
  unfold lookB at h
  rw [Option.map_eq_none_iff, List.find?_eq_none] at h
  intro hm
  obtain ⟨x, hx, e⟩ := List.mem_map.1 hm
  exact h x hx (by simp [e])
theorem nodup_small : ∀ (N : Nat) (l : List Int), l.Nodup → (∀ x, x ∈ l → 0 ≤ x ∧ x < N) → l.length ≤ N := by
  intro N
  induction N with
  | zero =>
    intro l _ h
    cases l with
    | nil => exact Nat.le_refl _
    | cons a r => have := h a List.mem_cons_self; omega
  | succ N ih =>
    intro l hn h
    have h1 := ih (l.erase (N : Int)) (hn.erase _) (fun x hx => by
      have h2 := h x (List.mem_of_mem_erase hx)
      have h3 : x ≠ N := by
        rintro rfl
        exact (List.Nodup.not_mem_erase hn) hx
      omega)
    have := List.length_erase_le (a := (N : Int)) (l := l)
    by_cases hm : (N : Int) ∈ l
    · rw [List.length_erase_of_mem hm] at h1
      omega
    · rw [List.erase_of_not_mem hm] at h1
      omega
section
variable {sig : List S85} {p t : List Int} {w wr : World} {B i n : Nat} {t' : List Int} {l : List S30} {A2 : Option Addr} {c2 : Nat} {v9 : Value}
theorem MInv.cons (h : MInv sig p t w B i n t' l A2 c2 v9 wr) (hi : i < p.length) : p.drop i = rd p i :: p.drop (i + 1) ∧ 0 < n ∧ 0 < t'.length ∧ -1048576 ≤ rd p i ∧ rd p i < sig.length := by
  have e := drop_cons hi
  have ht := h.tp
  rw [e] at ht
  have hn : 0 < n := by cases ht <;> omega
  refine ⟨e, hn, Nat.lt_of_lt_of_le hn h.tt.le, ?_, ?_⟩
  · cases ht <;> omega
  · cases ht <;> omega
theorem MInv.small (h : MInv sig p t w B i n t' l A2 c2 v9 wr) : l.length ≤ 1048577 := by
  have := nodup_small 1048577 (l.map (·.f0)) h.nd (fun x hx => by
    obtain ⟨y, hy, rfl⟩ := List.mem_map.1 hx
    have := h.keys y hy
    omega)
  simpa using this
theorem MInv.drawn (h : MInv sig p t w B i n t' l A2 c2 v9 wr) (m : Nat) : MInv sig p t w B i n t' l A2 c2 v9 (wr.drewN m) :=
  { h with own := Kd.S_drewN h.own m, bel := pw_below_drewN h.bel m, map := by obtain ⟨f, h1, h2⟩ := h.map; exact ⟨f, h1.step rfl, h2⟩ }
theorem MInv.map_mono (h : ∃ m, MapI wr B i m ∧ ∀ v, (lookB l v = none → m v = none) ∧ ∀ u, lookB l v = some u → ∃ A c, m v = some (.slice A u.length c) ∧ u.length ≤ c ∧ Kd.C (Kd.int .i64) w A u.length u) :
    ∃ m, MapI wr B (i + 1) m ∧ ∀ v, (lookB l v = none → m v = none) ∧ ∀ u, lookB l v = some u → ∃ A c, m v = some (.slice A u.length c) ∧ u.length ≤ c ∧ Kd.C (Kd.int .i64) w A u.length u := by
  obtain ⟨m, ⟨D, h1, h2⟩, h3⟩ := h
  exact ⟨m, ⟨D, h1.mono (Nat.le_succ _), h2⟩, h3⟩
/-- A sign that stands there. -/
theorem MInv.sign (h : MInv sig p t w B i n t' l A2 c2 v9 wr) (hi : i < p.length) (hc : 0 ≤ rd p i) (he : rd t' 0 = rd p i) {A' : Option Addr} {c' : Nat} (hr : ∀ w : World, Kd.C (Kd.int .i64) w A2 t'.length t' → Kd.C (Kd.int .i64) w A' (t'.drop 1).length (t'.drop 1)) (hl : (t'.drop 1).length ≤ c') :
    MInv sig p t w B (i + 1) (n - 1 + ari sig (rd p i)) (t'.drop 1) l A' c' v9 wr := by
  obtain ⟨e, hn, hlen, _, _⟩ := h.cons hi
  have ht := h.tp
  rw [e] at ht
  have ht2 := h.tt
  have e2 := drop_cons hlen
  rw [List.drop_zero] at e2
  have e3 : rd t' ((0 : Nat) : Int) = rd p i := he
  rw [e2, e3] at ht2
  exact {
    run := by rw [h.run, e, matchGo, if_pos hc, if_pos he],
    tp := by
      cases ht with
      | var _ h1 _ _ => omega
      | app _ _ _ hh => exact hh,
    tt := by
      cases ht2 with
      | var _ h1 _ _ => omega
      | app _ _ _ hh => exact hh,
    rdt := hr w h.rdt, cap := hl, len := by have := h.len; rw [List.length_drop]; omega,
    own := h.own, keys := h.keys, nd := h.nd, hB := h.hB, bel := h.bel, map := MInv.map_mono h.map }
/-- What the first term of the row is. -/
theorem MInv.first (h : MInv sig p t w B i n t' l A2 c2 v9 wr) (hi : i < p.length) (hc : rd p i < 0) : ∃ n', n = n' + 1 ∧ Terms sig n' (p.drop (i + 1)) ∧ Terms sig n' (t'.drop (reachN sig t' 1)) ∧ reachN sig t' 1 ≤ t'.length ∧ 0 < reachN sig t' 1 := by
  obtain ⟨e, hn, hlen, _, _⟩ := h.cons hi
  obtain ⟨n', rfl⟩ : ∃ n', n = n' + 1 := ⟨n - 1, by omega⟩
  have ht := h.tp
  rw [e] at ht
  have ht2 := h.tt
  rw [Nat.add_comm] at ht2
  obtain ⟨u, v, rfl, hu, hv⟩ := ht2.split
  have hr := terms_reach sig u 1 v hu
  refine ⟨n', rfl, ?_, by rw [hr, List.drop_left]; exact hv, by rw [hr, List.length_append]; omega, by rw [hr]; exact hu.le⟩
  cases ht with
  | var _ _ _ hh => exact hh
  | app _ h1 _ _ => omega
/-- A variable that was met: the same term again. -/
theorem MInv.same (h : MInv sig p t w B i n t' l A2 c2 v9 wr) (hi : i < p.length) (hc : rd p i < 0) (hk : lookB l (-1 - rd p i) = some (t'.take (reachN sig t' 1))) {A' : Option Addr} {c' : Nat}
    (hr : ∀ w : World, Kd.C (Kd.int .i64) w A2 t'.length t' → Kd.C (Kd.int .i64) w A' (t'.drop (reachN sig t' 1)).length (t'.drop (reachN sig t' 1))) (hl : (t'.drop (reachN sig t' 1)).length ≤ c') :
    ∃ n', MInv sig p t w B (i + 1) n' (t'.drop (reachN sig t' 1)) l A' c' v9 wr := by
  obtain ⟨n', rfl, h1, h2, h3, _⟩ := h.first hi hc
  exact ⟨n', {
    run := by rw [h.run, (h.cons hi).1, matchGo, if_neg (by omega), hk]; exact if_pos rfl,
    tp := h1, tt := h2, rdt := hr w h.rdt, cap := hl, len := by have := h.len; rw [List.length_drop]; omega,
    own := h.own, keys := h.keys, nd := h.nd, hB := h.hB, bel := h.bel, map := MInv.map_mono h.map }⟩
/-- A new variable. -/
theorem MInv.new (h : MInv sig p t w B i n t' l A2 c2 v9 wr) (hi : i < p.length) (hc : rd p i < 0) (hk : lookB l (-1 - rd p i) = none) {A' : Option Addr} {c' : Nat} {w5 : World} {v9' : Value} {m : Int → Option Value}
    (hr : ∀ w : World, Kd.C (Kd.int .i64) w A2 t'.length t' → Kd.C (Kd.int .i64) w A' (t'.drop (reachN sig t' 1)).length (t'.drop (reachN sig t' 1))) (hl : (t'.drop (reachN sig t' 1)).length ≤ c')
    (hrel : ∀ v, (lookB l v = none → m v = none) ∧ ∀ u, lookB l v = some u → ∃ A c, m v = some (.slice A u.length c) ∧ u.length ≤ c ∧ Kd.C (Kd.int .i64) w A u.length u)
    (hM : MapI w5 B (i + 1) (fun k' => if k' = -1 - rd p i then some (.slice A2 (t'.take (reachN sig t' 1)).length c2) else m k'))
    (hown : Kd.S k30 30 w5 w.heap.size (fun k => k ≠ B) v9' (l ++ [⟨-1 - rd p i, t'.take (reachN sig t' 1)⟩])) (hbel : Below w.heap.size w w5) :
    ∃ n', MInv sig p t w B (i + 1) n' (t'.drop (reachN sig t' 1)) (l ++ [⟨-1 - rd p i, t'.take (reachN sig t' 1)⟩]) A' c' v9' w5 := by
  obtain ⟨n', rfl, h1, h2, h3, _⟩ := h.first hi hc
  obtain ⟨e, _, _, hlo, _⟩ := h.cons hi
  exact ⟨n', {
    run := by rw [h.run, e, matchGo, if_neg (by omega), hk],
    tp := h1, tt := h2, rdt := hr w h.rdt, cap := hl, len := by have := h.len; rw [List.length_drop]; omega,
    own := hown,
    keys := fun x hx => by
      rcases List.mem_append.1 hx with hx | hx
      · exact h.keys x hx
      · rw [List.mem_singleton.1 hx]
        show 0 ≤ -1 - rd p i ∧ -1 - rd p i ≤ 1048576
        omega,
    nd := by
      rw [List.map_append, List.nodup_append]
      refine ⟨h.nd, by simp, fun a ha b hb => ?_⟩
      rw [List.map_singleton, List.mem_singleton] at hb
      rintro rfl
      rw [hb] at ha
      exact lookB_none hk ha,
    hB := h.hB, bel := hbel,
    map := ⟨_, hM, fun v => by
      rw [lookB_snoc]
      show (_ → (if v = -1 - rd p i then _ else m v) = none) ∧ ∀ u, _ → ∃ A c, (if v = -1 - rd p i then _ else m v) = _ ∧ _
      by_cases hv : v = -1 - rd p i
      · subst hv
        rw [hk, if_pos rfl]
        simp only [if_true]
        refine ⟨fun h => by simp at h, fun u hu => ?_⟩
        have hu := Option.some.inj hu
        subst hu
        refine ⟨A2, c2, rfl, ?_, Kd.C_take h.rdt h3⟩
        have := h.cap
        rw [List.length_take]
        omega
      · rw [if_neg hv]
        have hv' : ¬ (-1 - rd p i = v) := fun e => hv e.symm
        obtain ⟨h4, h5⟩ := hrel v
        cases hlk : lookB l v with
        | some u' => exact ⟨fun h => by simp at h, fun u hu => h5 u (by rw [hlk]; exact hu)⟩
        | none =>
          simp only [hv', if_false]
          exact ⟨fun _ => h4 hlk, fun u hu => by simp at hu⟩⟩ }⟩
end
theorem f0_inj {l : List S30} (hn : (l.map (·.f0)).Nodup) {a b : S30} (ha : a ∈ l) (hb : b ∈ l) (e : a.f0 = b.f0) : a = b := by
  induction l with
  | nil => simp at ha
  | cons x r ih =>
    rw [List.map_cons, List.nodup_cons] at hn
    rcases List.mem_cons.1 ha with ha' | ha'
    · rcases List.mem_cons.1 hb with hb' | hb'
      · rw [ha', hb']
      · exact absurd (show x.f0 ∈ r.map (·.f0) from List.mem_map.2 ⟨b, hb', by rw [← e, ha']⟩) hn.1
    · rcases List.mem_cons.1 hb with hb' | hb'
      · exact absurd (show x.f0 ∈ r.map (·.f0) from List.mem_map.2 ⟨a, ha', by rw [e, hb']⟩) hn.1
      · exact ih hn.2 ha' hb'
theorem sortB_eq {l ys : List S30} (hn : (l.map (·.f0)).Nodup) (hp : ys.Perm l) (hs : ys.Pairwise (fun a b => a.f0 ≤ b.f0)) : ys = sortB l := by
  have h1 : (sortB l).Perm l := List.mergeSort_perm l _
  have h2 : (sortB l).Pairwise (fun a b => a.f0 ≤ b.f0) := by
    have := List.pairwise_mergeSort (le := fun a b : S30 => decide (a.f0 ≤ b.f0)) (by intro a b c; simp; omega) (by intro a b; simp; omega) l
    exact this.imp (by intro a b h; simpa using h)
  exact List.Perm.eq_of_pairwise (le := fun a b : S30 => a.f0 ≤ b.f0) (fun a b ha hb h3 h4 => f0_inj hn (hp.mem_iff.1 ha) (h1.mem_iff.1 hb) (by omega)) hs h2 (hp.trans h1.symm)
theorem equal_l0 (a b : List Int) (hl : a.length = b.length) (hm : a.length ≤ 9223372036854775807) : ∀ (d i k : Nat), a.length = i + d → d < k → slices_Equal_int_int.l0 k a b a.length i = some (decide (a.drop i = b.drop i)) := by
  intro d
  induction d with
  | zero =>
    intro i k hd hk
    obtain ⟨k, rfl⟩ : ∃ k', k = k' + 1 := ⟨k - 1, by omega⟩
    rw [slices_Equal_int_int.l0, if_neg (by omega), List.drop_eq_nil_of_le (by omega), List.drop_eq_nil_of_le (by omega)]
    simp
  | succ d ih =>
    intro i k hd hk
    obtain ⟨k, rfl⟩ : ∃ k', k = k' + 1 := ⟨k - 1, by omega⟩
    rw [drop_cons (show i < a.length by omega), drop_cons (show i < b.length by omega), slices_Equal_int_int.l0, if_pos (by omega), if_pos (by omega), if_pos (by omega), if_pos (by omega)]
    by_cases e : rd a i = rd b i
    · rw [if_pos e, w64 (by omega) (by omega), show ((i : Int) + 1) = ((i + 1 : Nat) : Int) by omega, ih (i + 1) k (by omega) (by omega), e]
      simp
    · rw [if_neg e]
      simp [e]
theorem equal_is (a b : List Int) (hm : a.length ≤ 9223372036854775807) : slices_Equal_int_int.f (a.length + 1) a b = some (decide (a = b)) := by
  unfold slices_Equal_int_int.f
  by_cases hl : a.length = b.length
  · have := equal_l0 a b hl hm a.length 0 (a.length + 1) (by omega) (by omega)
    rw [List.drop_zero, List.drop_zero] at this
    rw [if_pos (by omega)]
    exact this
  · rw [if_neg (by omega)]
    have : a ≠ b := fun e => hl (by rw [e])
    simp [this]
noncomputable def match_Match.f (l0 : List S85) (l1 l2 : List Int) : Option (List S30 × Bool) := open Classical in if sigFine l0 ∧ l1.length ≤ 17592186044416 ∧ l2.length ≤ 17592186044416 then some (matchF l0 l1 l2) else none
theorem zero_row (w : World) : (zeroValue 23).run Tryd.prog w = .ok (.slice none 0 0) w := by kernel_rfl
set_option maxHeartbeats 1000000 in
set_option maxRecDepth 100000 in
theorem match_Match.calls (A0 : Option Addr) (c0 : Nat) (l0 : List S85) (A1 : Option Addr) (c1 : Nat) (l1 : List Int) (A2 : Option Addr) (c2 : Nat) (l2 : List Int) (r1 : List S30) (r2 : Bool) (w : World) (hr0 : Kd.C k85 w A0 l0.length l0) (hc0 : l0.length ≤ c0) (hr1 : Kd.C (Kd.int .i64) w A1 l1.length l1) (hc1 : l1.length ≤ c1) (hr2 : Kd.C (Kd.int .i64) w A2 l2.length l2) (hc2 : l2.length ≤ c2) (h : match_Match.f l0 l1 l2 = some (r1, r2)) (hT : Tabs w) :
    Calls Tryd.prog 11 #[.slice A0 l0.length c0, .slice A1 l1.length c1, .slice A2 l2.length c2] w fun e w' => ∃ v0_ : Value, e = .returned (.tuple #[v0_, .bool r2]) ∧ Kd.S k30 30 w' w.heap.size (fun _ => True) v0_ r1 ∧ Below w.heap.size w w' := by
  have hg : sigFine l0 ∧ l1.length ≤ 17592186044416 ∧ l2.length ≤ 17592186044416 := by
    apply Classical.byContradiction
    intro hn
    rw [match_Match.f, if_neg hn] at h
    simp at h
  rw [match_Match.f, if_pos hg] at h
  have h := Option.some.inj h
  have hm1 := hr1.2.1
  have cP := fun w1 (hb : Below w.heap.size w w1) => term_Check.calls A0 c0 l0 A1 c1 l1 (chk l0 l1) w1 (Kd.C_below hr0 hb) hc0 (Kd.C_below hr1 hb) hc1 (by rw [term_Check.f, if_pos ⟨hg.1, by omega⟩]) (hT.below hb)
  have cT := fun w1 (hb : Below w.heap.size w w1) => term_Check.calls A0 c0 l0 A2 c2 l2 (chk l0 l2) w1 (Kd.C_below hr0 hb) hc0 (Kd.C_below hr2 hb) hc2 (by rw [term_Check.f, if_pos ⟨hg.1, hg.2.2⟩]) (hT.below hb)
  by_cases hp : chk l0 l1 = 0
  · by_cases ht : chk l0 l2 = 0
    · obtain ⟨hse, htp⟩ := chk_ok hp
      obtain ⟨_, htt⟩ := chk_ok ht
      have har := sig_ar hse
      have hsl := sig_len hse
      have hE := Aside0.mk (h.symm.trans (show matchF l0 l1 l2 = (match matchGo l0 l1 l2 [] with | none => ([], false) | some l => (sortB l, true)) by rw [matchF, if_pos ⟨hp, ht⟩]))
      rw [hp] at cP
      rw [ht] at cT
      have CP := Aside0.mk cP
      have CT := Aside0.mk cT
      have HR0 := Aside0.mk hr0
      have HR1 := Aside0.mk hr1
      have HR2 := Aside0.mk hr2
      have HTP := Aside0.mk htp
      have HTT := Aside0.mk htt
      have HAR := Aside0.mk har
      have hl1 := hg.2.1
      have hl2 := hg.2.2
      have hu30 := Tryd.underlying30
      clear h hr0 hr1 hr2 hT cP cT hg hp ht htp htt har hse
      go_enter Tryd.func11, Tryd.ntmps11
      go_wp2_with fail
      refine (CP.out _ (Below.refl _ _)).mono ?_
      rintro e w1 ⟨rfl, hb1⟩
      go_wp2_with fail
      refine (CT.out _ hb1).mono ?_
      rintro e w2 ⟨rfl, hb2⟩
      have hmm := @run_makeMap Tryd.prog
      have hb12 := below_step hb1 hb2
      have M0 : MInv l0 l1 l2 w w2.heap.size 0 1 l2 [] A2 c2 (.slice none 0 0) (w2.alloc (.map #[] 0)) := {
        run := rfl, tp := HTP.out, tt := HTT.out, rdt := HR2.out, cap := hc2, len := Nat.le_refl _, own := Kd.S_nil _ _ _ _ _, keys := fun x hx => by simp at hx, nd := List.Pairwise.nil,
        hB := hb12.size, bel := below_alloc hb12 _, map := ⟨_, MapI.made w2, fun v => ⟨fun _ => rfl, fun u hu => by simp [lookB] at hu⟩⟩ }
      go_wp2_with fail
      go_loopg [2, 9, 32] (l1.length + 1) (fun kq v2 v9 v32 wx => ∃ (i n : Nat) (t' : List Int) (l : List S30) (A' : Option Addr) (c' : Nat), v2 = .slice A' t'.length c' ∧ v32 = .int .i64 i ∧ kq + i = l1.length + 1 ∧ i ≤ l1.length ∧ MInv l0 l1 l2 w w2.heap.size i n t' l A' c' v9 wx)
      case atStart => exact ⟨0, 1, l2, [], A2, c2, rfl, rfl, by omega, by omega, M0⟩
      case round =>
        obtain ⟨i, n, t', l, A', c', rfl, rfl, hkq, hile, hR⟩ := hrel
        clear M0
        by_cases hi : i < l1.length
        · obtain ⟨k1, rfl⟩ : ∃ k1, gk = k1 + 1 := ⟨gk - 1, by omega⟩
          obtain ⟨_, hn0, hlt', hclo, hchi⟩ := hR.cons hi
          obtain ⟨ad, e, hx⟩ := at_L_int (Kd.C_below HR1.out hR.bel) (i : Int) (by omega) (by omega)
          subst e
          rw [Int.toNat_natCast] at hx
          have pa : ((0 : Int) ≤ (i : Int)) = True := eq_true (by omega)
          have qa : ((i : Int) < (l1.length : Int)) = True := eq_true (by omega)
          have cPt := fun W => part_calls (rd l1 i) W hclo
          have hlen := hR.len
          by_cases hc : rd l1 i < 0
          · obtain ⟨n', rfl, ht1, ht2, hle, hpos⟩ := hR.first hi hc
            obtain ⟨A3, hcut, hrd3, hl3⟩ := cut_drop A' c' t' (reachN l0 t' 1 : Nat) (by omega) (by omega) hR.cap
            obtain ⟨htk, hrd4, hl4⟩ := cut_take A' c' t' (reachN l0 t' 1 : Nat) (by omega) (by omega) hR.cap
            rw [Int.toNat_natCast] at hcut hrd3 hl3 htk hrd4 hl4
            have cRe := reach_calls l0 t' A0 A' c0 c' n' wr HAR.out hsl hR.tt (Kd.C_below HR0.out hR.bel) hc0 (Kd.C_below hR.rdt hR.bel) hR.cap (by omega)
            obtain ⟨m, hM, hrel⟩ := hR.map
            have hwf : (Lit.int .i64 (-1 - rd l1 i)).wf = true := WalkArith.wf_i64 (by omega)
            have HRD3 := Aside0.mk hrd3
            have HRD4 := Aside0.mk hrd4
            have HREL := Aside0.mk hrel
            have hRI := Aside0.mk hR
            have hta := ta_hole
            have hta2 := ta_hole2
            simp only [if_pos hc] at cPt
            have hzr := zero_row
            clear hR hrd3 hrd4 hrel
            have HNEW : Aside0 (∀ (w5 : World) (v9' : Value), lookB l (-1 - rd l1 i) = none → MapI w5 w2.heap.size (i + 1) (fun k' => if k' = -1 - rd l1 i then some (.slice A' (t'.take (reachN l0 t' 1)).length c') else m k') →
                Kd.S k30 30 w5 w.heap.size (fun k => k ≠ w2.heap.size) v9' (l ++ [⟨-1 - rd l1 i, t'.take (reachN l0 t' 1)⟩]) → Below w.heap.size w w5 →
                ∃ n', MInv l0 l1 l2 w w2.heap.size (i + 1) n' (t'.drop (reachN l0 t' 1)) (l ++ [⟨-1 - rd l1 i, t'.take (reachN l0 t' 1)⟩]) A3 (c' - reachN l0 t' 1) v9' w5) :=
              ⟨fun w5 v9' hk hM hown hbel => hRI.out.new hi hc hk HRD3.out hl3 HREL.out hM hown hbel⟩
            have HSAME : Aside0 (lookB l (-1 - rd l1 i) = some (t'.take (reachN l0 t' 1)) → ∀ q, ∃ n', MInv l0 l1 l2 w w2.heap.size (i + 1) n' (t'.drop (reachN l0 t' 1)) l A3 (c' - reachN l0 t' 1) u9 (wr.drewN q)) :=
              ⟨fun hk q => (hRI.out.drawn q).same hi hc hk HRD3.out hl3⟩
            have HOTHER : Aside0 (∀ u, lookB l (-1 - rd l1 i) = some u → u ≠ t'.take (reachN l0 t' 1) → matchGo l0 l1 l2 [] = none) :=
              ⟨fun u hk hu => by rw [hRI.out.run, (hRI.out.cons hi).1, matchGo, if_neg (by omega), hk]; exact if_neg hu⟩
            have htl : (t'.take (reachN l0 t' 1)).length = reachN l0 t' 1 := by rw [List.length_take]; omega
            generalize hTK : t'.take (reachN l0 t' 1) = tk at *
            generalize hTD : t'.drop (reachN l0 t' 1) = td at *
            have hsm := hRI.out.small
            clear hTK hTD HRD3 ht1 ht2
            generalize reachN l0 t' 1 = rn at *
            generalize rd l1 (i : Int) = c at *
            have HTL := Aside0.mk htl
            clear htl
            have hrn0 : ((0 : Int) ≤ (rn : Int)) = True := eq_true (by omega)
            cases hlk : lookB l (-1 - c) with
            | none =>
              have hmk := (HREL.out (-1 - c)).1 hlk
              have HLK := Aside0.mk hlk
              have HMK := Aside0.mk hmk
              have HBR := Aside0.mk hRI.out.bel
              have HOW := Aside0.mk hRI.out.own
              have hBlt := hM.lt
              have hBhi := hRI.out.hB
              have cC := fun W (hb : Below w.heap.size w W) => slices_Clone_int_int.calls A' c' tk tk W (Kd.C_below (HRD4.out w hRI.out.rdt) hb) hl4 (by have := HTL.out; rw [slices_Clone_int_int.f, if_pos (by omega)])
              have CC := Aside0.mk cC
              clear hlk hmk cC
              go_wp2_with fail
              refine (cPt _).mono ?_
              rintro e w' ⟨rfl, rfl⟩
              go_wp2_with fail
              refine cRe.mono ?_
              rintro e w' ⟨rfl, ⟨nd, rfl⟩⟩
              have HM := Aside0.mk (hM.step (w1 := wr.drewN nd) rfl)
              clear hM
              go_wp2_with (first | (at_lookup; refine wpList_lookup_miss rfl _ _ 47 23 rfl Tryd.underlying47 (hzr _) w2.heap.size i m rfl HM.out (-1 - c) rfl hwf HMK.out ?_) | (at_mapUpdate; refine wpList_update_mapI rfl _ _ _ 47 23 rfl Tryd.underlying47 w2.heap.size i m rfl HM.out (by unfold maxLen; omega) (-1 - c) (.slice A' tk.length c') rfl rfl hwf ?_))
              intro w3 hM3 hg3
              have HB3 := Aside0.mk ((pw_below_drewN HBR.out nd).grown hg3 HBR.out.size (fun k_ hk_ => by cases hk_; exact hBhi))
              have HOW3 := Aside0.mk (Kd.S_grown (Kd.S_drewN HOW.out nd) hg3 (fun k_ hk_ e_ => hk_ (by injection e_)))
              have HM3 := Aside0.mk hM3
              have hB3 := hM3.lt
              clear hM3 hg3
              go_wp2_with fail
              refine (CC.out _ HB3.out).mono ?_
              rintro e w4 ⟨vc, rfl, hvc, hb4⟩
              obtain ⟨Ac, cc, hvs⟩ := Kd.R_slice hvc
              subst hvs
              have HVC := Aside0.mk hvc
              have HB4 := Aside0.mk hb4
              clear hvc hb4
              go_wp2_with (first | (at_builtin; refine Kd.S_append k30 (w0 := w) w.heap.size rfl _ _ 25 30 (.agg #[.int .i64 0, .slice none 0 0]) 32 rfl Tryd.underlying25 info30 rfl (by decide) (by omega) u9 l ⟨-1 - c, tk⟩ [.int .i64 (-1 - c), .slice Ac tk.length cc] (fun k => k ≠ w2.heap.size) (fun k => (k ≠ w2.heap.size ∧ some k ≠ u9.ownBlock) ∧ w3.heap.size ≤ k) rfl rfl ?aP (fun _ hk => hk.1) ?aF ?aO ?aB ?aS ?aL ?_))
              case aP =>
                have hs3 := HB3.out.size
                exact k30_mkM _ _ _ ⟨-1 - c, tk⟩ (Kd.R_mono (Kd.R_lower (Kd.R_bound HVC.out) hs3) (fun k_ hk_ => ⟨⟨by have := hk_.2.1; omega, fun e_ => absurd (Kd.S_lt HOW3.out k_ e_.symm) (by have := hk_.2.1; omega)⟩, hk_.2.1⟩))
              case aF => intro k_ hk_; have := HB4.out.size; omega
              case aO => exact Kd.S_below (Kd.S_mono (Kd.S_bound HOW3.out) (fun k_ hk_ => ⟨hk_.1, fun h_ => by have := hk_.2.2.1; have := h_.2; omega⟩)) HB4.out
              case aB => exact below_step HB3.out HB4.out
              case aS => exact (below_step HB3.out HB4.out).size
              case aL => omega
              intro v5 w5 ho5 hb5 hg5 hat5
              have hM5 := HM3.out.step (w1 := w5) (((hg5.block w2.heap.size (by have := HB4.out.size; omega) (fun e_ => ((Kd.S_R HOW3.out).1 _ e_.symm) rfl))).trans (HB4.out.block _ hB3))
              have HN := Aside0.mk (HNEW.out w5 v5 HLK.out hM5 ho5 hb5)
              clear hM5 ho5 hb5 hg5 hat5
              go_wp2_with fail
              go_roundg k1
              case measure => omega
              case rel =>
                obtain ⟨n2, hS2⟩ := HN.out
                exact ⟨i + 1, n2, td, _, A3, c' - rn, by simp, by go_num, by omega, by omega, hS2⟩
            | some u =>
              obtain ⟨Au, cu, hmk, hcu, hru⟩ := (HREL.out (-1 - c)).2 u hlk
              have HLK := Aside0.mk hlk
              have hul : u.length ≤ 9223372036854775807 := hru.2.1
              have cE := fun W (hb : Below w.heap.size w W) => slices_Equal_int_int.calls (u.length + 1) Au cu u A' c' tk _ W (Kd.C_below hru hb) hcu (Kd.C_below (HRD4.out w hRI.out.rdt) hb) hl4 (equal_is u tk hul)
              clear hlk
              have HRU := Aside0.mk hru
              have HBR := Aside0.mk hRI.out.bel
              clear hru
              by_cases heq : u = tk
              · subst heq
                have hS := HSAME.out HLK.out
                have HS := Aside0.mk hS
                rw [decide_eq_true rfl] at cE
                have CE := Aside0.mk cE
                clear hS cE
                go_wp2_with fail
                refine (cPt _).mono ?_
                rintro e w' ⟨rfl, rfl⟩
                go_wp2_with fail
                refine cRe.mono ?_
                rintro e w' ⟨rfl, ⟨nd, rfl⟩⟩
                have HM := Aside0.mk (hM.step (w1 := wr.drewN nd) rfl)
                have HMK := Aside0.mk hmk
                clear hM hmk
                go_wp2_with (first | (at_lookup; refine wpList_lookup_hit rfl _ _ 47 23 rfl Tryd.underlying47 (hzr _) w2.heap.size i m rfl HM.out (-1 - c) rfl hwf _ HMK.out ?_))
                refine (CE.out _ (pw_below_drewN HBR.out nd)).mono ?_
                rintro e w' ⟨rfl, ⟨nd2, rfl⟩⟩
                go_wp2_with fail
                go_roundg k1
                case measure => omega
                case rel =>
                  obtain ⟨n2, hS2⟩ := HS.out (nd + nd2)
                  exact ⟨i + 1, n2, td, l, A3, c' - rn, by simp, by go_num, by omega, by omega, hS2⟩
              · have hno := HOTHER.out u HLK.out heq
                rw [hno] at hE
                rw [decide_eq_false heq] at cE
                have CE := Aside0.mk cE
                clear cE hno heq
                go_wp2_with fail
                refine (cPt _).mono ?_
                rintro e w' ⟨rfl, rfl⟩
                go_wp2_with fail
                refine cRe.mono ?_
                rintro e w' ⟨rfl, ⟨nd, rfl⟩⟩
                have HM := Aside0.mk (hM.step (w1 := wr.drewN nd) rfl)
                have HMK := Aside0.mk hmk
                clear hM hmk
                go_wp2_with (first | (at_lookup; refine wpList_lookup_hit rfl _ _ 47 23 rfl Tryd.underlying47 (hzr _) w2.heap.size i m rfl HM.out (-1 - c) rfl hwf _ HMK.out ?_))
                refine (CE.out _ (pw_below_drewN HBR.out nd)).mono ?_
                rintro e w' ⟨rfl, ⟨nd2, rfl⟩⟩
                go_wp2_with fail
                go_ret2
                injection hE.out with h1 h2
                rw [h1, h2]
                exact ⟨_, rfl, Kd.S_nil _ _ _ _ _, pw_below_drewN HBR.out _⟩
          · obtain ⟨ad2, e, hx2⟩ := at_L_int (Kd.C_below hR.rdt hR.bel) (0 : Int) (by omega) (by omega)
            subst e
            rw [Int.toNat_zero] at hx2
            rw [addr_zero] at hx2
            obtain ⟨A3, hcut, hrd3, hl3⟩ := cut_drop (some ad2) c' t' 1 (by omega) (by omega) hR.cap
            have pb : ((0 : Int) < (t'.length : Int)) = True := eq_true (by omega)
            have hRI := Aside0.mk hR
            simp only [if_neg hc] at cPt
            have hrd3' := Aside0.mk hrd3
            clear hR hrd3
            by_cases he : rd t' 0 = rd l1 i
            · have heb : (rd t' 0 != rd l1 i) = false := by rw [he]; simp
              have HNX := Aside0.mk (hRI.out.sign hi (by omega) he hrd3'.out hl3)
              have hi' := hi
              clear he hl3
              generalize hcc : rd l1 (i : Int) = c at *
              generalize hdd : rd t' 0 = d at *
              have HCC := Aside0.mk hcc
              have HDD := Aside0.mk hdd
              clear hcc hdd
              have hta := ta_sign
              go_wp2_with (first | (go_at_call 30; refine (cPt _).mono ?_; rintro e w' ⟨rfl, rfl⟩))
              go_roundg k1
              case measure => omega
              case rel => exact ⟨i + 1, _, t'.drop 1, l, A3, c' - 1, by simp, by go_num, by omega, by omega, HNX.out⟩
            · have heb : (rd t' 0 != rd l1 i) = true := bne_iff_ne.mpr he
              have hno : matchGo l0 l1 l2 [] = none := by
                rw [hRI.out.run, (hRI.out.cons hi).1, matchGo, if_pos (by omega), if_neg he]
              rw [hno] at hE
              clear he hl3 hno
              generalize rd l1 (i : Int) = c at *
              generalize rd t' 0 = d at *
              have hta := ta_sign
              go_wp2_with (first | (go_at_call 30; refine (cPt _).mono ?_; rintro e w' ⟨rfl, rfl⟩))
              go_ret2
              injection hE.out with h1 h2
              rw [h1, h2]
              exact ⟨_, rfl, Kd.S_nil _ _ _ _ _, hRI.out.bel⟩
        · obtain rfl : i = l1.length := by omega
          have hrun := hR.run
          rw [List.drop_length, matchGo] at hrun
          rw [hrun] at hE
          obtain ⟨A9, c9, hv9⟩ := Kd.S_slice hR.own
          have cS := sort_calls 35 Lib.compareInt cmpInt_lt (enters_of Tryd.func35 (by kernel_rfl) rfl) cmp_closure hR.own hR.keys (by have := hR.small; omega)
          have HND := Aside0.mk hR.nd
          have HBR := Aside0.mk hR.bel
          have hbs := Kd.S_base2 hR.own
          have HBS := Aside0.mk hbs
          clear hR hrun hbs
          subst hv9
          go_wp2_with (first | (go_at_call 34; refine cS.mono ?_; rintro e w3 ⟨rfl, ys, hp, hs, ho, hg⟩; replace hp := Aside0.mk hp; replace hs := Aside0.mk hs; replace ho := Aside0.mk ho; replace hg := Aside0.mk hg))
          go_ret2
          injection hE.out with h1 h2
          have hys := sortB_eq HND.out hp.out hs.out
          rw [h1, h2, ← hys]
          exact ⟨_, rfl, Kd.S_mono ho.out (fun _ _ => trivial), HBR.out.grown hg.out HBR.out.size (fun k_ hk_ => by
            rcases HBS.out with h | ⟨b, h, h'⟩
            · rw [h] at hk_; cases hk_
            · rw [h] at hk_; cases hk_; exact h')⟩
    · have hE := Aside0.mk (h.symm.trans (show matchF l0 l1 l2 = ([], false) by rw [matchF, if_neg (fun hh => ht hh.2)]))
      have hne : (chk l0 l2 != 0) = true := bne_iff_ne.mpr ht
      rw [hp] at cP
      have CP := Aside0.mk cP
      have CT := Aside0.mk cT
      clear h hr0 hr1 hr2 hc0 hc1 hc2 hT cP cT hg ht hp
      go_enter Tryd.func11, Tryd.ntmps11
      go_wp2_with fail
      refine (CP.out _ (Below.refl _ _)).mono ?_
      rintro e w1 ⟨rfl, hb1⟩
      go_wp2_with fail
      refine (CT.out _ hb1).mono ?_
      rintro e w2 ⟨rfl, hb2⟩
      go_wp2_with fail
      go_ret2
      injection hE.out with h1 h2
      rw [h1, h2]
      exact ⟨_, rfl, Kd.S_nil _ _ _ _ _, below_step hb1 hb2⟩
  · have hE := Aside0.mk (h.symm.trans (show matchF l0 l1 l2 = ([], false) by rw [matchF, if_neg (fun hh => hp hh.1)]))
    have hne : (chk l0 l1 != 0) = true := bne_iff_ne.mpr hp
    have CP := Aside0.mk cP
    clear h hr0 hr1 hr2 hc0 hc1 hc2 hT cP cT hg hp
    go_enter Tryd.func11, Tryd.ntmps11
    go_wp2_with fail
    refine (CP.out _ (Below.refl _ _)).mono ?_
    rintro e w1 ⟨rfl, hb1⟩
    go_wp2_with fail
    go_ret2
    injection hE.out with h1 h2
    rw [h1, h2]
    exact ⟨_, rfl, Kd.S_nil _ _ _ _ _, hb1⟩
end Go.Proofs.YtjckddaaeiffpaaDoor.Z
