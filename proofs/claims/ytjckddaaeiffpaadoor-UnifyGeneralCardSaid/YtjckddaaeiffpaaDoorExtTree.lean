/- Terms as trees: (term.reader).read, grown, tree, Check: what a row of codes is read as, and what is wrong with it. -/
import Derived.Test.YtjckddaaeiffpaaDoorZ0
import Derived.Test.YtjckddaaeiffpaaDoorExtName
import Derived.Test.YtjckddaaeiffpaaDoorExtSig
import Derived.Outline
import Derived.Deep.RegionWith
namespace Go.Proofs.YtjckddaaeiffpaaDoor.Z
open Go.RowKit Go.Proofs.YtjckddaaeiffpaaDoorW.PrintWords Go.Proofs.YtjckddaaeiffpaaDoorW.PrintLast Go.Proofs.YtjckddaaeiffpaaDoorW.PrintMore
attribute [local go_sem] max2_int min2_int max_two min_two max_three min_three max_four min_four   -- for this text's walks alone
set_option linter.unusedVariables false
set_option linter.unusedSimpArgs false

inductive Sh where
  | leaf
  | inner (kids : List Sh)
mutual
def Sh.size : Sh → Nat
  | .leaf => 1
  | .inner ks => Sh.sizes ks + 1
def Sh.sizes : List Sh → Nat
  | [] => 0
  | k :: r => Sh.size k + Sh.sizes r
end
theorem Sh.sizes_append (a b : List Sh) : Sh.sizes (a ++ b) = Sh.sizes a + Sh.sizes b := by
  induction a with
  | nil => simp [Sh.sizes]
  | cons x r ih => simp only [List.cons_append, Sh.sizes, ih]; omega
/-- A node's value, as it lies in memory. -/
inductive NodeV (w : World) : Value → Sh → Prop where
  | leaf (n : Int) : NodeV w (.iface 141 (.int .i64 n)) .leaf
  | inner (b : Nat) (a : Int) (A : Option Addr) (c : Nat) (ks : List Sh) (vs : Nat → Value)
      (hb : w.heap[b]? = some (.cells #[.int .i64 a, .int .i64 ((Sh.inner ks).size : Nat), .slice A ks.length c] 145 (0, 0)))
      (hv : ∀ i, i < ks.length → ∃ ad, A = some ad ∧ w.cell? (ad.add i) = some (vs i))
      (hk : ∀ i (h : i < ks.length), NodeV w (vs i) ks[i]) : NodeV w (.iface 142 (.pointer (some ⟨b, 0, none⟩))) (.inner ks)
theorem NodeV.stays {w w1 : World} {v : Value} {s : Sh} (h : NodeV w v s) (hb : Below w.heap.size w w1) : NodeV w1 v s := by
  induction h with
  | leaf n => exact .leaf n
  | inner b a A c ks vs hbl hv hk ih =>
    refine .inner b a A c ks vs (blk_below hbl hb) (fun i hi => ?_) ih
    obtain ⟨ad, e, hc⟩ := hv i hi
    exact ⟨ad, e, (hb.cell (World.block_lt_of_cell? _ _ hc)).trans hc⟩
/-- .. and stays so while the blocks of ok do. -/
def NodeF (w : World) (ok : Nat → Prop) (v : Value) (s : Sh) : Prop := Foot (fun W => NodeV W v s) w ok
def readKids (f : Nat → Int → Sh × Nat × Int) : Nat → Nat → Int → List Sh → List Sh × Nat × Int
  | 0, a, b, acc => (acc, a, b)
  | n + 1, a, b, acc => readKids f n (f a b).2.1 (f a b).2.2 (acc ++ [(f a b).1])
def readF : Nat → List S85 → List Int → Nat → Int → Sh × Nat × Int
  | 0, _, _, a, b => (.leaf, a, b)
  | k + 1, sig, t, a, b =>
    if b ≠ 0 then (.leaf, a, b)
    else if a = t.length then (.leaf, a, 31)
    else if rd t a ≥ sig.length ∨ rd t a < -1048576 then (.leaf, a, 30)
    else if rd t a < 0 then (.leaf, a + 1, 0)
    else (.inner (readKids (fun a b => readF k sig t a b) (rd_T85 sig (rd t a)).f1.toNat (a + 1) 0 []).1, (readKids (fun a b => readF k sig t a b) (rd_T85 sig (rd t a)).f1.toNat (a + 1) 0 []).2)
def arOk (sig : List S85) : Prop := ∀ i : Nat, i < sig.length → 0 ≤ (rd_T85 sig i).f1 ∧ (rd_T85 sig i).f1 ≤ 8
theorem kids_bounds (f : Nat → Int → Sh × Nat × Int) (N : Nat) (hf : ∀ a b, a ≤ N → a ≤ (f a b).2.1 ∧ (f a b).2.1 ≤ N ∧ (f a b).1.size ≤ 9 * ((f a b).2.1 - a) + 1) :
    ∀ n a b acc, a ≤ N → a ≤ (readKids f n a b acc).2.1 ∧ (readKids f n a b acc).2.1 ≤ N ∧ Sh.sizes (readKids f n a b acc).1 ≤ Sh.sizes acc + 9 * ((readKids f n a b acc).2.1 - a) + n := by
  intro n
  induction n with
  | zero => intro a b acc ha; simp only [readKids]; omega
  | succ n ih =>
    intro a b acc ha
    obtain ⟨h1, h2, h3⟩ := hf a b ha
    obtain ⟨h4, h5, h6⟩ := ih (f a b).2.1 (f a b).2.2 (acc ++ [(f a b).1]) h2
    rw [Sh.sizes_append] at h6
    simp only [Sh.sizes] at h6
    simp only [readKids]
    omega
theorem read_bounds (sig : List S85) (har : arOk sig) (t : List Int) : ∀ k a b, a ≤ t.length → a ≤ (readF k sig t a b).2.1 ∧ (readF k sig t a b).2.1 ≤ t.length ∧ (readF k sig t a b).1.size ≤ 9 * ((readF k sig t a b).2.1 - a) + 1 := by
  intro k
  induction k with
  | zero => intro a b ha; simp only [readF, Sh.size]; omega
  | succ k ih =>
    intro a b ha
    simp only [readF]
    repeat' split
    all_goals first | (simp only [Sh.size]; omega) | skip
    rename_i h1 h2 h3 h4
    have hlt : a < t.length := by omega
    have hc : (rd t a).toNat < sig.length := by omega
    have hA := har _ hc
    rw [Int.toNat_of_nonneg (by omega)] at hA
    obtain ⟨h5, h6, h7⟩ := kids_bounds (fun a b => readF k sig t a b) t.length (fun a b h => ih a b h) (rd_T85 sig (rd t a)).f1.toNat (a + 1) 0 [] (by omega)
    simp only [Sh.size]
    simp only [Sh.sizes] at h7
    omega
theorem readF_go (k : Nat) (sig : List S85) (t : List Int) (a : Nat) (hl : ¬ a = t.length) : readF (k + 1) sig t a 0 =
    if rd t a ≥ sig.length ∨ rd t a < -1048576 then (.leaf, a, 30)
    else if rd t a < 0 then (.leaf, a + 1, 0)
    else (.inner (readKids (fun a b => readF k sig t a b) (rd_T85 sig (rd t a)).f1.toNat (a + 1) 0 []).1, (readKids (fun a b => readF k sig t a b) (rd_T85 sig (rd t a)).f1.toNat (a + 1) 0 []).2) := by
  rw [readF, if_neg (by simp), if_neg hl]
theorem at_L_int {w : World} {A : Option Addr} {n : Nat} {xs : List Int} (h : Kd.C (Kd.int .i64) w A n xs) (i : Int) (h0 : 0 ≤ i) (h1 : i < n) : ∃ ad, A = some ad ∧ w.cell? (ad.add i.toNat) = some (.int .i64 (rd xs i)) := by
  obtain ⟨ad, c, e, _, hK, hc0⟩ := Kd.C_get h (0 : Int) i h0 h1
  have hc : ∀ j u, c[j]? = some u → w.cell? (ad.add (i.toNat * 1 + j)) = some u := hc0
  have hK' : c = [.int .i64 (xs.getD i.toNat 0)] := hK
  refine ⟨ad, e, ?_⟩
  have := hc 0 (.int .i64 (xs.getD i.toNat 0)) (by rw [hK']; rfl)
  rw [Nat.mul_one, Nat.add_zero] at this
  exact this
theorem cell_later' {w0 w : World} (hb : Below w0.heap.size w0 w) {a : Addr} {v : Value} (h : w0.cell? a = some v) : w.cell? a = some v := (hb.cell (World.block_lt_of_cell? _ _ h)).trans h
/-- What holds at the head of each round of read's loop. -/
structure RdInv (l0 : List S85) (l1 : List Int) (A0 A1 : Option Addr) (c0 c1 : Nat) (f : Nat → Int → Sh × Nat × Int) (w0 w : World) (g a n j a2 : Nat) (b2 : Int) (acc : List Sh) (kv : Value) (vs : List Value) (wx : World) : Prop where
  run : readKids f n (a + 1) 0 [] = readKids f (n - j) a2 b2 acc
  lo : a + 1 ≤ a2
  hi : a2 ≤ l1.length
  len : acc.length = j
  vlen : vs.length = j
  own : wx.ownsRow (w.heap.size + 1) 89 1 kv j vs
  kids : ∀ i (h : i < acc.length), NodeF wx (fun k_ => w.heap.size < k_ ∧ k_ ≠ g ∧ some k_ ≠ kv.ownBlock) (vs.getD i .nilIface) acc[i]
  bx : wx.heap[w.heap.size]? = some (.cells #[.int .i64 a, .int .i64 ((Sh.inner acc).size : Nat), kv] 145 (0, 0))
  bg : wx.heap[g]? = some (.cells #[.slice A0 l0.length c0, .slice A1 l1.length c1, .int .i64 a2, .int .i64 b2] 132 (0, 0))
  bel : Below w0.heap.size w0 wx
  keep : KeepBut w wx g none
  bound : Sh.sizes acc ≤ 9 * (a2 - (a + 1)) + j
theorem info89 : (Tryd.prog.info? 89).map (fun i => (i.zero, i.size, i.bytes)) = some (some .nilIface, 1, 16) := by kernel_rfl
theorem meth_leaf (n : Int) (w : World) : (method 270 141 (.int .i64 n) "lodestone/term.size").run Tryd.prog w = .ok (121, .int .i64 n) w := by kernel_rfl
theorem meth_inner (a : Addr) (w : World) : (method 270 142 (.pointer (some a)) "lodestone/term.size").run Tryd.prog w = .ok (122, .pointer (some a)) w := by kernel_rfl
theorem leaf_size (n : Int) (w : World) : Calls Tryd.prog 121 #[.int .i64 n] w fun e w' => e = .returned (.int .i64 1) ∧ w' = w := by
  go_enter Tryd.func121, Tryd.ntmps121
  go_wp2
  go_ret
  exact ⟨rfl, rfl⟩
theorem inner_size (b : Nat) (m : Int) (w : World) (h : w.cell? ⟨b, 1, none⟩ = some (.int .i64 m)) : Calls Tryd.prog 122 #[.pointer (some ⟨b, 0, none⟩)] w fun e w' => e = .returned (.int .i64 m) ∧ w' = w := by
  go_enter Tryd.func122, Tryd.ntmps122
  go_wp2
  go_ret
  exact ⟨rfl, rfl⟩
theorem rd_next {l0 : List S85} {l1 : List Int} {A0 A1 : Option Addr} {c0 c1 : Nat} {f : Nat → Int → Sh × Nat × Int} {w0 w wr w2 w3 : World} {g a n j a2 a3 gb cap : Nat} {b2 b3 : Int} {acc : List Sh} {kv v : Value} {vs : List Value} {sh : Sh}
    (hR : RdInv l0 l1 A0 A1 c0 c1 f w0 w g a n j a2 b2 acc kv vs wr) (hrf : f a2 b2 = (sh, a3, b3)) (hbd : a2 ≤ a3 ∧ a3 ≤ l1.length ∧ sh.size ≤ 9 * (a3 - a2) + 1) (hj : j < n) (hglt : g < w.heap.size)
    (hst : ∀ k_, wr.heap.size ≤ k_ → k_ < w2.heap.size → (w3.setCell ⟨w.heap.size, 2, none⟩ (.slice (some ⟨gb, 0, none⟩) (j + 1) cap)).heap[k_]? = w2.heap[k_]?)
    (hrow : ∀ k_, wr.heap.size ≤ k_ → some k_ ≠ kv.ownBlock) (hN : NodeF w2 (fun k_ => wr.heap.size ≤ k_ ∧ k_ ≠ g) v sh)
    (hbx2 : w2.heap[w.heap.size]? = some (.cells #[.int .i64 a, .int .i64 ((Sh.inner acc).size : Nat), kv] 145 (0, 0)))
    (hbg2 : w2.heap[g]? = some (.cells #[.slice A0 l0.length c0, .slice A1 l1.length c1, .int .i64 a3, .int .i64 b3] 132 (0, 0)))
    (hbel2 : Below w0.heap.size w0 w2) (hkp2 : KeepBut wr w2 g none)
    (hown3 : w3.ownsRow (w.heap.size + 1) 89 1 (.slice (some ⟨gb, 0, none⟩) (j + 1) cap) (j + 1) (vs ++ [v]))
    (hg3 : w2.grownBy w3 kv.ownBlock) (hat : (Value.slice (some ⟨gb, 0, none⟩) (j + 1) cap).ownBlock = kv.ownBlock ∨ ∃ b, (Value.slice (some ⟨gb, 0, none⟩) (j + 1) cap).ownBlock = some b ∧ w2.heap.size ≤ b)
    (hbx3 : w3.heap[w.heap.size]? = some (.cells #[.int .i64 a, .int .i64 ((Sh.inner acc).size : Nat), kv] 145 (0, 0))) (hg : w0.heap.size ≤ g) (m : Nat) (hlow : w.heap.size < wr.heap.size) :
    RdInv l0 l1 A0 A1 c0 c1 f w0 w g a n (j + 1) a3 b3 (acc ++ [sh]) (.slice (some ⟨gb, 0, none⟩) (j + 1) cap) (vs ++ [v])
      (((w3.setCell ⟨w.heap.size, 2, none⟩ (.slice (some ⟨gb, 0, none⟩) (j + 1) cap)).drewN m).setCell ⟨w.heap.size, 1, none⟩ (.int .i64 (((Sh.inner acc).size : Nat) + (sh.size : Nat)))) := by
  have hgb : w.heap.size < gb := own_base hown3 gb (by simp [Value.ownBlock])
  have h5 : ∀ k_, k_ ≠ w.heap.size → (((w3.setCell ⟨w.heap.size, 2, none⟩ (.slice (some ⟨gb, 0, none⟩) (j + 1) cap)).drewN m).setCell ⟨w.heap.size, 1, none⟩ (.int .i64 (((Sh.inner acc).size : Nat) + (sh.size : Nat)))).heap[k_]? = w3.heap[k_]? := fun k_ hk_ =>
    (Below.heap_setCell _ _ _ k_ hk_).trans (Below.heap_setCell w3 ⟨w.heap.size, 2, none⟩ _ k_ hk_)
  have h23 : ∀ k_, k_ < w2.heap.size → some k_ ≠ kv.ownBlock → w3.heap[k_]? = w2.heap[k_]? := fun k_ h1 h2 => hg3.block k_ h1 h2
  have hs2 : wr.heap.size ≤ w2.heap.size := hkp2.1
  have hgk : some g ≠ kv.ownBlock := fun e => absurd (own_base hR.own g e.symm) (by omega)
  have hsz5 : w2.heap.size ≤ (((w3.setCell ⟨w.heap.size, 2, none⟩ (.slice (some ⟨gb, 0, none⟩) (j + 1) cap)).drewN m).setCell ⟨w.heap.size, 1, none⟩ (.int .i64 (((Sh.inner acc).size : Nat) + (sh.size : Nat)))).heap.size := by
    have := hg3.size
    simp at this ⊢
    omega
  exact {
    run := by
      rw [hR.run, show n - j = (n - (j + 1)) + 1 by omega, readKids, hrf],
    lo := by have := hR.lo; omega, hi := hbd.2.1, len := by simp [hR.len], vlen := by simp [hR.vlen],
    own := own_move hown3 (fun k_ hk_ => h5 k_ (by have : k_ = gb := by { simpa [Value.ownBlock] using hk_.symm }; omega)),
    kids := fun i hi => by
      by_cases hlt : i < acc.length
      · rw [List.getElem_append_left hlt, List.getD_eq_getElem?_getD, List.getElem?_append_left (by have := hR.vlen; have := hR.len; omega), ← List.getD_eq_getElem?_getD]
        refine Foot.mono (Foot.step (Foot.bound (hR.kids i hlt)) (fun k_ hk_ hl_ => ?_)) (fun k_ hk_ => ⟨hk_.1.1, hk_.1.2.1, ?_⟩)
        · rw [h5 k_ (by have := hk_.1.1; omega), h23 k_ (by omega) hk_.1.2.2]
          exact hkp2.2 k_ hl_ hk_.1.2.1 (by simp)
        · intro e
          rcases hat with h | ⟨b, h, h'⟩
          · exact hk_.1.2.2 (e.trans h)
          · have : k_ = b := by rw [h] at e; injection e
            have := hk_.2
            omega
      · have hii : i = acc.length := by simp at hi; omega
        subst hii
        rw [List.getElem_append_right (by omega), List.getD_eq_getElem?_getD, List.getElem?_append_right (by have := hR.vlen; have := hR.len; omega)]
        have e1 : acc.length - vs.length = 0 := by have := hR.vlen; have := hR.len; omega
        simp only [e1, Nat.sub_self, List.getElem_cons_zero, List.getElem?_cons_zero, Option.getD_some]
        refine Foot.mono (Foot.step (Foot.bound hN) (fun k_ hk_ hl_ => ?_)) (fun k_ hk_ => ⟨by have := hk_.1.1; omega, hk_.1.2, ?_⟩)
        · rw [h5 k_ (by have := hk_.1.1; omega), h23 k_ hl_ (hrow k_ hk_.1.1)]
        · intro e
          rcases hat with h | ⟨b, h, h'⟩
          · exact hrow k_ hk_.1.1 (e.trans h)
          · have : k_ = b := by rw [h] at e; injection e
            have := hk_.2
            omega,
    bx := by
      have e1 := blk_put (cs := #[.int .i64 a, .int .i64 ((Sh.inner acc).size : Nat), kv]) hbx3 2 (.slice (some ⟨gb, 0, none⟩) (j + 1) cap) rfl
      have e2 := blk_put (blk_drewN e1 m) 1 (.int .i64 (((Sh.inner acc).size : Nat) + (sh.size : Nat))) rfl
      rw [e2]
      have e3 : ((Sh.inner (acc ++ [sh])).size : Int) = ((Sh.inner acc).size : Nat) + (sh.size : Nat) := by
        simp only [Sh.size, Sh.sizes_append, Sh.sizes]
        omega
      rw [e3]
      rfl,
    bg := by rw [h5 g (by omega), h23 g (blk_lt hbg2) hgk]; exact hbg2,
    bel := by
      have h1 : Below w0.heap.size w0 w3 := hbel2.grown hg3 hbel2.size (fun k_ hk_ => by have := own_base hR.own k_ hk_; omega)
      exact below_set (pw_below_drewN (below_set h1 (by omega)) m) (by omega),
    keep := by
      have h1 : KeepBut w w3 g none := KeepBut.trans (KeepBut.trans hR.keep hkp2 (.inl rfl)) (KeepBut.of_grown hg3 g) (by
        rcases own_base' hR.own with h | ⟨b, h, h'⟩
        · exact .inl h
        · exact .inr ⟨b, h, by omega⟩)
      exact keep_far (keep_drewN (keep_far h1 (p := ⟨w.heap.size, 2, none⟩) (Nat.le_refl _) _) m) (p := ⟨w.heap.size, 1, none⟩) (Nat.le_refl _) _,
    bound := by
      rw [Sh.sizes_append]
      simp only [Sh.sizes]
      have := hR.bound
      have := hR.lo
      omega }
theorem rd_end {l0 : List S85} {l1 : List Int} {A0 A1 : Option Addr} {c0 c1 : Nat} {f : Nat → Int → Sh × Nat × Int} {w0 w wr : World} {g a n a2 : Nat} {b2 : Int} {acc : List Sh} {kv : Value} {vs : List Value}
    (hR : RdInv l0 l1 A0 A1 c0 c1 f w0 w g a n n a2 b2 acc kv vs wr) (hglt : g < w.heap.size) :
    NodeF wr (fun k_ => w.heap.size ≤ k_ ∧ k_ ≠ g) (.iface 142 (.pointer (some ⟨w.heap.size, 0, none⟩))) (.inner (readKids f n (a + 1) 0 []).1) ∧
    wr.heap[g]? = some (.cells #[.slice A0 l0.length c0, .slice A1 l1.length c1, .int .i64 ((readKids f n (a + 1) 0 []).2.1 : Nat), .int .i64 (readKids f n (a + 1) 0 []).2.2] 132 (0, 0)) := by
  have hrun := hR.run
  rw [Nat.sub_self, readKids] at hrun
  rw [hrun]
  refine ⟨fun W' hW' => ?_, hR.bg⟩
  have hkid : ∀ i (h : i < acc.length), NodeV W' (vs.getD i .nilIface) acc[i] := fun i h => hR.kids i h W' (fun k_ hk_ hl_ => hW' k_ ⟨by have := hk_.1; omega, hk_.2.1⟩ hl_)
  have hbx := (hW' w.heap.size ⟨Nat.le_refl _, by omega⟩ (blk_lt hR.bx)).trans hR.bx
  have hbase := own_base hR.own
  have hltb := own_lt hR.own
  rcases hR.own.2 with ⟨h1, h2⟩ | ⟨gb, cap, cur, h1, _⟩
  · subst h2
    have ha := List.eq_nil_of_length_eq_zero hR.len
    subst ha
    subst h1
    exact .inner w.heap.size a none 0 [] (fun i => vs.getD i .nilIface) hbx (fun i h => absurd h (by simp)) (fun i h => hkid i h)
  · have hc := World.ownsRow.cells hR.own (g := gb) (by rw [h1]; rfl)
    subst h1
    have hgb := hbase gb rfl
    have hgl := hltb gb rfl
    have hW2 := hW' gb ⟨by omega, by omega⟩ hgl
    refine .inner w.heap.size a (some ⟨gb, 0, none⟩) cap acc (fun i => vs.getD i .nilIface) (by rw [hR.len]; exact hbx) (fun i h => ⟨_, rfl, ?_⟩) (fun i h => hkid i h)
    have hi : i < vs.length := by have := hR.vlen; have := hR.len; omega
    have := hc i (vs.getD i .nilIface) (by rw [List.getD_eq_getElem?_getD, List.getElem?_eq_getElem hi]; rfl)
    rw [← this]
    have hbk : ((⟨gb, 0, none⟩ : Addr).add i).block = gb := add_block _ _
    simp only [World.cell?, hbk, hW2]
set_option maxHeartbeats 4000000 in
set_option maxRecDepth 100000 in
theorem read_calls (l0 : List S85) (l1 : List Int) (A0 A1 : Option Addr) (c0 c1 : Nat) (har : arOk l0) (hl1 : l1.length ≤ 17592186044416) (k : Nat) : ∀ (a : Nat) (b : Int) (w0 w : World) (g : Nat),
    Kd.C k85 w0 A0 l0.length l0 → Kd.C (Kd.int .i64) w0 A1 l1.length l1 → Below w0.heap.size w0 w → w0.heap.size ≤ g → a ≤ l1.length → l1.length < a + k →
    w.heap[g]? = some (.cells #[.slice A0 l0.length c0, .slice A1 l1.length c1, .int .i64 a, .int .i64 b] 132 (0, 0)) →
    Calls Tryd.prog 91 #[.pointer (some ⟨g, 0, none⟩)] w fun e w' => ∃ v, e = .returned v ∧ NodeF w' (fun k_ => w.heap.size ≤ k_ ∧ k_ ≠ g) v (readF k l0 l1 a b).1 ∧
      w'.heap[g]? = some (.cells #[.slice A0 l0.length c0, .slice A1 l1.length c1, .int .i64 ((readF k l0 l1 a b).2.1 : Nat), .int .i64 (readF k l0 l1 a b).2.2] 132 (0, 0)) ∧
      Below w0.heap.size w0 w' ∧ KeepBut w w' g none := by
  induction k with
  | zero => intro a b w0 w g _ _ _ _ ha hk; omega
  | succ k ih =>
    intro a b w0 w g hr0 hr1 hB hg ha hk hblk
    have hg0 := (blk_cell hblk 0).trans rfl
    have hg1 := (blk_cell hblk 1).trans rfl
    have hg2 := (blk_cell hblk 2).trans rfl
    have hg3 := (blk_cell hblk 3).trans rfl
    have hf2 := blk_frozen hblk 2
    have hf3 := blk_frozen hblk 3
    have HB := Aside0.mk hB
    have HBL := Aside0.mk hblk
    have hm0 := hr0.2.1
    have hglt := blk_lt hblk
    have hgne : w.heap.size ≠ g := by omega
    have hgne' : g ≠ w.heap.size := by omega
    have HR0 := Aside0.mk hr0
    have HR1 := Aside0.mk hr1
    have IH := Aside0.mk ih
    clear hB hblk hr0 hr1 ih
    by_cases hb : b = 0
    · subst hb
      by_cases hl : a = l1.length
      · have E := Aside0.mk (show readF (k + 1) l0 l1 a 0 = (.leaf, a, 31) by rw [readF, if_neg (by simp), if_pos hl])
        have hlb : ((a : Int) == (l1.length : Int)) = true := by rw [hl]; simp
        clear hl
        go_enter Tryd.func91, Tryd.ntmps91
        go_wp2_with fail
        go_quiet (fail)
        go_wp2_with fail
        go_ret
        rw [E.out]
        exact ⟨_, rfl, fun _ _ => .leaf 0, blk_put (cs := #[_, _, .int .i64 a, .int .i64 0]) (by repeat (first | exact HBL.out | refine blk_drewN ?_ _)) 3 _ rfl, by repeat (first | exact HB.out | refine below_set ?_ hg | apply pw_below_drewN), by repeat (first | exact KeepBut.refl _ _ _ | apply KeepBut.set_ | apply keep_drewN)⟩
      · have hlb : ((a : Int) == (l1.length : Int)) = false := by rw [beq_eq_false_iff_ne]; omega
        obtain ⟨ad, e, hx⟩ := at_L_int HR1.out (a : Int) (by omega) (by omega)
        subst e
        have hx' := cell_later' HB.out hx
        clear hx
        have E0 := Aside0.mk (readF_go k l0 l1 a hl)
        have pa : ((0 : Int) ≤ (a : Int)) = True := eq_true (by omega)
        have qa : ((a : Int) < (l1.length : Int)) = True := eq_true (by omega)
        have hal : a < l1.length := by omega
        rw [Int.toNat_natCast] at hx'
        generalize rd l1 (a : Int) = c at *
        by_cases hbig : c ≥ (l0.length : Int)
        · have E := Aside0.mk (E0.out.trans (if_pos (.inl hbig)))
          clear E0 hl
          go_enter Tryd.func91, Tryd.ntmps91
          go_wp2_with fail
          go_quiet (fail)
          go_wp2_with fail
          go_quiet (fail)
          go_wp2_with fail
          go_ret
          rw [E.out]
          exact ⟨_, rfl, fun _ _ => .leaf 0, blk_put (cs := #[_, _, .int .i64 a, .int .i64 0]) (by repeat (first | exact HBL.out | refine blk_drewN ?_ _)) 3 _ rfl, by repeat (first | exact HB.out | refine below_set ?_ hg | apply pw_below_drewN), by repeat (first | exact KeepBut.refl _ _ _ | apply KeepBut.set_ | apply keep_drewN)⟩
        · by_cases hsm : c < -1048576
          · have E := Aside0.mk (E0.out.trans (if_pos (.inr hsm)))
            clear E0 hl
            go_enter Tryd.func91, Tryd.ntmps91
            go_wp2_with fail
            go_quiet (fail)
            go_wp2_with fail
            go_quiet (fail)
            go_wp2_with fail
            go_ret
            rw [E.out]
            exact ⟨_, rfl, fun _ _ => .leaf 0, blk_put (cs := #[_, _, .int .i64 a, .int .i64 0]) (by repeat (first | exact HBL.out | refine blk_drewN ?_ _)) 3 _ rfl, by repeat (first | exact HB.out | refine below_set ?_ hg | apply pw_below_drewN), by repeat (first | exact KeepBut.refl _ _ _ | apply KeepBut.set_ | apply keep_drewN)⟩
          · have E1 := Aside0.mk (E0.out.trans (if_neg (by omega)))
            by_cases hv : c < 0
            · have E := Aside0.mk (E1.out.trans (if_pos hv))
              clear E0 E1 hl
              go_enter Tryd.func91, Tryd.ntmps91
              go_wp2_with fail
              go_quiet (fail)
              go_wp2_with fail
              go_quiet (fail)
              go_wp2_with fail
              go_ret
              rw [E.out]
              exact ⟨_, rfl, fun _ _ => .leaf _, blk_put (cs := #[_, _, .int .i64 a, .int .i64 0]) (by repeat (first | exact HBL.out | refine blk_drewN ?_ _)) 2 _ rfl, by repeat (first | exact HB.out | refine below_set ?_ hg | apply pw_below_drewN), by repeat (first | exact KeepBut.refl _ _ _ | apply KeepBut.set_ | apply keep_drewN)⟩
            · have E := Aside0.mk (E1.out.trans (if_neg hv))
              clear E0 E1 hl
              obtain ⟨ad0, e, hs0, hs1⟩ := at_T85 HR0.out c (by omega) (by omega)
              subst e
              have hs1' : ∀ n o v, (((w.drewN n).alloc o).setCell ⟨g, 2, none⟩ v).cell? ⟨(ad0.add (c.toNat * 2)).block, (ad0.add (c.toNat * 2)).off + 1, none⟩ = _ := fun n o v => cell_later' (below_set (below_alloc (pw_below_drewN HB.out n) o) hg) hs1
              clear hs0 hs1
              have hA := har c.toNat (by omega)
              rw [Int.toNat_of_nonneg (by omega)] at hA
              have pc : ((0 : Int) ≤ c) = True := eq_true (by omega)
              have qc : (c < (l0.length : Int)) = True := eq_true (by omega)
              have q0 : ∀ n o, ((w.drewN n).alloc o).cell? ⟨g, 0, none⟩ = some (.slice (some ad0) l0.length c0) := fun n o => (blk_cell (blk_alloc (blk_drewN HBL.out n) o) 0).trans rfl
              have q2 : ∀ n o, ((w.drewN n).alloc o).cell? ⟨g, 2, none⟩ = some (.int .i64 a) := fun n o => (blk_cell (blk_alloc (blk_drewN HBL.out n) o) 2).trans rfl
              have q2f : ∀ n o, ((w.drewN n).alloc o).frozen? ⟨g, 2, none⟩ = false := fun n o => blk_frozen (blk_alloc (blk_drewN HBL.out n) o) 2
              generalize (rd_T85 l0 c).f1 = ar at *
              obtain ⟨n, rfl⟩ := Int.eq_ofNat_of_zero_le hA.1
              rw [Int.toNat_natCast] at E
              go_enter Tryd.func91, Tryd.ntmps91
              go_wp2_with fail
              go_quiet (fail)
              go_wp2_with fail
              go_quiet (fail)
              go_wp2_with fail
              have R0 : ∀ m, RdInv l0 l1 (some ad0) (some ad) c0 c1 (fun a b => readF k l0 l1 a b) w0 w g a n 0 (a + 1) 0 [] (.slice none 0 0) [] (((w.drewN m).alloc (.cells #[.int .i64 a, .int .i64 1, .slice none 0 0] 145)).setCell ⟨g, 2, none⟩ (.int .i64 (a + 1))) := fun m => {
                run := rfl, lo := Nat.le_refl _, hi := by omega, len := rfl, vlen := rfl, own := World.ownsRow_nil _ _ _ _,
                kids := fun i h => absurd h (by simp),
                bx := blk_far (blk_new (w.drewN m) _) (p := ⟨g, 2, none⟩) (show w.heap.size ≠ g from hgne) _,
                bg := blk_put (cs := #[_, _, .int .i64 a, .int .i64 0]) (blk_alloc (blk_drewN HBL.out m) _) 2 _ (by simp),
                bel := below_set (below_alloc (pw_below_drewN HB.out m) _) hg,
                keep := KeepBut.set_ (keep_alloc (keep_drewN (KeepBut.refl _ _ _) m) _) _ _,
                bound := by simp [Sh.sizes] }
              clear q0 q2 q2f hs1' hx' pc qc
              go_loopg [5, 88] (n + 1) (fun kq v5 v88 wx => ∃ (j a2 : Nat) (b2 : Int) (acc : List Sh) (kv : Value) (vs : List Value), v88 = .int .i64 j ∧ kq + j = n + 1 ∧ j ≤ n ∧ RdInv l0 l1 (some ad0) (some ad) c0 c1 (fun a b => readF k l0 l1 a b) w0 w g a n j a2 b2 acc kv vs wx)
              case atStart => exact ⟨0, a + 1, 0, [], _, [], rfl, by omega, by omega, R0 _⟩
              case round =>
                obtain ⟨j, a2, b2, acc, kv, vs, rfl, hkq, hjn, hR⟩ := hrel
                clear R0
                by_cases hj : j < n
                · obtain ⟨k1, rfl⟩ : ∃ k1, gk = k1 + 1 := ⟨gk - 1, by omega⟩
                  have cR := IH.out a2 b2 w0 wr g HR0.out HR1.out hR.bel hg hR.hi (by have := hR.lo; omega) hR.bg
                  have hRI := Aside0.mk hR
                  have hbd := read_bounds l0 har l1 k a2 b2 hR.hi
                  generalize hrf : readF k l0 l1 a2 b2 = rr at cR hbd
                  have HRF := Aside0.mk hrf
                  clear hR hrf
                  obtain ⟨sh, a3, b3⟩ := rr
                  simp only at cR hbd
                  go_wp2_with fail
                  refine cR.mono ?_
                  rintro e w2 ⟨v, rfl, hN, hbg2, hbel2, hkp2⟩
                  have hbx2 := KeepBut.blk hkp2 hRI.out.bx hgne (by simp)
                  have hown2 := own_move hRI.out.own (fun k_ hk_ => hkp2.2 k_ (own_lt hRI.out.own k_ hk_) (by have := own_base hRI.out.own k_ hk_; omega) (by simp))
                  have hl2 := (blk_cell hbx2 2).trans rfl
                  have HBX2 := Aside0.mk hbx2
                  have HBG2 := Aside0.mk hbg2
                  have HN := Aside0.mk hN
                  have HOW := Aside0.mk hown2
                  have HBEL2 := Aside0.mk hbel2
                  have HKP2 := Aside0.mk hkp2
                  have hw2 : w.heap.size < w2.heap.size := blk_lt hbx2
                  clear hbx2 hN hown2 cR hbg2 hbel2 hkp2
                  have hNN := HN.out w2 (fun _ _ _ => rfl)
                  obtain ⟨T, y, hTy⟩ : ∃ T y, v = .iface T y := by cases hNN with
                    | leaf n => exact ⟨_, _, rfl⟩
                    | inner b a A c ks vs hb hv hk => exact ⟨_, _, rfl⟩
                  subst hTy
                  have HNN := Aside0.mk hNN
                  clear hNN
                  go_wp2_with (first | (at_builtin; refine print_append_cells (w0 := w2) (w.heap.size + 1) rfl _ _ 143 89 .nilIface 1 16 rfl Tryd.underlying143 info89 rfl (by decide) (by decide) kv j vs [.iface T y] rfl rfl ?c1 ?c2 ?c3 ?c4 ?c5 ?c6 ?_))
                  case c1 => rfl
                  case c2 => intro u hu; rw [List.mem_singleton.1 hu]; rfl
                  case c3 => exact HOW.out
                  case c4 => exact Below.refl _ _
                  case c5 => omega
                  case c6 => omega
                  intro kv2 w3 hown3 hb3 hg3 hat3
                  obtain ⟨gb, cap, hkv⟩ : ∃ gb cap, kv2 = .slice (some ⟨gb, 0, none⟩) (j + 1) cap := by
                    rcases hown3.2 with ⟨h1, h2⟩ | ⟨g', cap, cur, h1, _⟩
                    · exact absurd h2 (by simp)
                    · exact ⟨g', cap, h1⟩
                  subst hkv
                  have HAT3 := Aside0.mk hat3
                  have HB3 := Aside0.mk hb3
                  clear hat3 hb3
                  have hne3 : ¬ some w.heap.size = kv.ownBlock := fun hh => absurd (own_base HOW.out w.heap.size hh.symm) (by omega)
                  have hbx3 := blk_grown HBX2.out hg3 hne3
                  have hl3 := (blk_cell hbx3 2).trans rfl
                  have hn3 := (blk_cell hbx3 1).trans rfl
                  have hf3' := blk_frozen hbx3 2
                  have hf4' := blk_frozen hbx3 1
                  have HBX3 := Aside0.mk hbx3
                  have HOW3 := Aside0.mk hown3
                  have HG3 := Aside0.mk hg3
                  clear hbx3 hown3 hg3 hne3 hl2
                  go_wp2_with fail
                  have hlow := blk_lt hRI.out.bx
                  have hrow : ∀ k_, wr.heap.size ≤ k_ → some k_ ≠ kv.ownBlock := fun k_ h1 h2 => absurd (own_lt hRI.out.own k_ h2.symm) (by omega)
                  have hst4 : ∀ k_, wr.heap.size ≤ k_ → k_ < w2.heap.size → (w3.setCell ⟨w.heap.size, 2, none⟩ (.slice (some ⟨gb, 0, none⟩) (j + 1) cap)).heap[k_]? = w2.heap[k_]? := fun k_ h1 h2 =>
                    (Below.heap_setCell w3 ⟨w.heap.size, 2, none⟩ _ k_ (by show k_ ≠ w.heap.size; omega)).trans (HG3.out.block k_ h2 (hrow k_ h1))
                  have hNN := HN.out _ (fun k_ h1 h2 => hst4 k_ h1.1 h2)
                  have HST4 := Aside0.mk hst4
                  have HROW := Aside0.mk hrow
                  have RNEXT : ∀ m, RdInv l0 l1 (some ad0) (some ad) c0 c1 (fun a b => readF k l0 l1 a b) w0 w g a n (j + 1) a3 b3 (acc ++ [sh]) (.slice (some ⟨gb, 0, none⟩) (j + 1) cap) (vs ++ [.iface T y]) (((w3.setCell ⟨w.heap.size, 2, none⟩ (.slice (some ⟨gb, 0, none⟩) (j + 1) cap)).drewN m).setCell ⟨w.heap.size, 1, none⟩ (.int .i64 (((Sh.inner acc).size : Nat) + (sh.size : Nat)))) := fun m => rd_next hRI.out HRF.out hbd hj hglt hst4 hrow HN.out HBX2.out HBG2.out HBEL2.out HKP2.out HOW3.out HG3.out HAT3.out HBX3.out hg m hlow
                  have HRN := Aside0.mk RNEXT
                  have hfit : ((Sh.inner acc).size : Nat) + sh.size ≤ 9223372036854775807 := by
                    have := hRI.out.bound
                    have := hRI.out.hi
                    simp only [Sh.size]
                    omega
                  clear HNN hrow hst4 RNEXT
                  generalize (Sh.inner acc).size = sa at *
                  cases hNN with
                  | leaf n0 =>
                    have hme := meth_leaf n0
                    simp only [Sh.size] at hfit HRN
                    go_region_with (go_at_call 121; refine (leaf_size n0 _).mono ?_; rintro e w' ⟨rfl, rfl⟩)
                    all_goals
                      go_wp2_with fail
                      go_roundg k1
                      case measure => omega
                      case rel => exact ⟨j + 1, a3, b3, _, _, _, by go_num, by omega, by omega, HRN.out 1⟩
                  | inner b5 a5 A5 c5 ks5 vs5 hb5 hv5 hk5 =>
                    have hme := meth_inner ⟨b5, 0, none⟩
                    have hsz5 : ((w3.setCell ⟨w.heap.size, 2, none⟩ (.slice (some ⟨gb, 0, none⟩) (j + 1) cap)).drew).cell? ⟨b5, 1, none⟩ = some (.int .i64 ((Sh.inner ks5).size : Nat)) := (blk_cell hb5 1).trans rfl
                    clear hv5 hk5 hb5
                    generalize (Sh.inner ks5).size = s5 at *
                    have cS := inner_size b5 _ _ hsz5
                    go_region_with (go_at_call 122; go_loud (refine cS.mono ?_); rintro e w' ⟨rfl, rfl⟩)
                    all_goals
                      go_wp2_with fail
                      go_roundg k1
                      case measure => omega
                      case rel => exact ⟨j + 1, a3, b3, _, _, _, by go_num, by omega, by omega, HRN.out 1⟩
                · obtain rfl : j = n := by omega
                  have hRI := Aside0.mk hR
                  clear hR
                  go_wp2_with fail
                  go_ret
                  rw [E.out]
                  obtain ⟨e1, e2⟩ := rd_end hRI.out hglt
                  exact ⟨_, rfl, e1, e2, hRI.out.bel, hRI.out.keep⟩
    · have hbb : (b != 0) = true := bne_iff_ne.mpr hb
      have E := Aside0.mk (show readF (k + 1) l0 l1 a b = (.leaf, a, b) by rw [readF, if_pos hb])
      clear hb
      go_enter Tryd.func91, Tryd.ntmps91
      go_wp2_with fail
      go_ret
      rw [E.out]
      exact ⟨_, rfl, fun _ _ => .leaf 0, HBL.out, HB.out, KeepBut.refl _ _ _⟩
/-- What is wrong with a row over a signature that may be. -/
def termErr (sig : List S85) (t : List Int) : Int :=
  if (readF (t.length + 1) sig t 0 0).2.2 = 0 ∧ (readF (t.length + 1) sig t 0 0).2.1 < t.length then 32 else (readF (t.length + 1) sig t 0 0).2.2
def shOf (sig : List S85) (t : List Int) : Sh := (readF (t.length + 1) sig t 0 0).1
set_option maxHeartbeats 4000000 in
set_option maxRecDepth 100000 in
theorem grown_calls (l0 : List S85) (l1 : List Int) (A0 A1 : Option Addr) (c0 c1 : Nat) (w : World) (har : arOk l0) (hl1 : l1.length ≤ 17592186044416) (hr0 : Kd.C k85 w A0 l0.length l0) (hr1 : Kd.C (Kd.int .i64) w A1 l1.length l1) :
    Calls Tryd.prog 74 #[.slice A0 l0.length c0, .slice A1 l1.length c1] w fun e w' => ∃ v, e = .returned (.tuple #[v, .int .i64 (termErr l0 l1)]) ∧ NodeV w' v (shOf l0 l1) ∧ Below w.heap.size w w' := by
  have cR := read_calls l0 l1 A0 A1 c0 c1 har hl1 (l1.length + 1) 0 0 w (w.alloc (.cells #[.slice A0 l0.length c0, .slice A1 l1.length c1, .int .i64 0, .int .i64 0] 132)) w.heap.size hr0 hr1
    (below_alloc (Below.refl _ _) _) (Nat.le_refl _) (Nat.zero_le _) (by omega) (blk_new w _)
  have hbd := read_bounds l0 har l1 (l1.length + 1) 0 0 (Nat.zero_le _)
  have hm1 := hr1.2.1
  have E1 : Aside0 (termErr l0 l1 = if (readF (l1.length + 1) l0 l1 0 0).2.2 = 0 ∧ (readF (l1.length + 1) l0 l1 0 0).2.1 < l1.length then 32 else (readF (l1.length + 1) l0 l1 0 0).2.2) := ⟨rfl⟩
  have E2 : Aside0 (shOf l0 l1 = (readF (l1.length + 1) l0 l1 0 0).1) := ⟨rfl⟩
  clear hr0 hr1
  generalize readF (l1.length + 1) l0 l1 0 0 = rr at *
  obtain ⟨sh, a, b⟩ := rr
  simp only at cR hbd E1 E2
  by_cases hb : b = 0
  · subst hb
    have ENT : True := trivial
    by_cases hlt : a < l1.length
    · have E3 := Aside0.mk (E1.out.trans (if_pos ⟨rfl, hlt⟩))
      clear E1
      go_enter Tryd.func74, Tryd.ntmps74
      go_wp2_with (first | (go_at_call 91; refine cR.mono ?_; rintro e w2 ⟨v, rfl, hN, hbg2, hbel2, hkp2⟩; replace hN := Aside0.mk hN; clear hkp2; replace hbel2 := Aside0.mk hbel2; have hz2 := blk_lt hbg2; have q2 := (blk_cell hbg2 2).trans rfl; have q3 := (blk_cell hbg2 3).trans rfl; have qf := blk_frozen hbg2 3; replace hbg2 := Aside0.mk hbg2))
      go_quiet (fail)
      go_wp2_with fail
      go_ret2
      rw [E3.out, E2.out]
      exact ⟨v, rfl, hN.out _ (fun k_ h1 h2 => Below.heap_setCell w2 ⟨w.heap.size, 3, none⟩ _ k_ h1.2), pw_below_drewN (below_set hbel2.out (Nat.le_refl _)) _⟩
    · have E3 := Aside0.mk (E1.out.trans (if_neg (fun h => hlt h.2)))
      clear E1
      go_enter Tryd.func74, Tryd.ntmps74
      go_wp2_with (first | (go_at_call 91; refine cR.mono ?_; rintro e w2 ⟨v, rfl, hN, hbg2, hbel2, hkp2⟩; replace hN := Aside0.mk hN; clear hkp2; replace hbel2 := Aside0.mk hbel2; have hz2 := blk_lt hbg2; have q2 := (blk_cell hbg2 2).trans rfl; have q3 := (blk_cell hbg2 3).trans rfl; have qf := blk_frozen hbg2 3; replace hbg2 := Aside0.mk hbg2))
      go_quiet (fail)
      go_wp2_with fail
      go_ret2
      rw [E3.out, E2.out]
      exact ⟨v, rfl, hN.out _ (fun k_ h1 h2 => rfl), pw_below_drewN hbel2.out _⟩
  · have E3 := Aside0.mk (E1.out.trans (if_neg (fun h => hb h.1)))
    have hbb : (b == 0) = false := beq_eq_false_iff_ne.mpr hb
    clear E1 hb
    go_enter Tryd.func74, Tryd.ntmps74
    go_wp2_with (first | (go_at_call 91; refine cR.mono ?_; rintro e w2 ⟨v, rfl, hN, hbg2, hbel2, hkp2⟩; replace hN := Aside0.mk hN; clear hkp2; replace hbel2 := Aside0.mk hbel2; have hz2 := blk_lt hbg2; have q2 := (blk_cell hbg2 2).trans rfl; have q3 := (blk_cell hbg2 3).trans rfl; have qf := blk_frozen hbg2 3; replace hbg2 := Aside0.mk hbg2))
    go_quiet (fail)
    go_wp2_with fail
    go_ret2
    rw [E3.out, E2.out]
    exact ⟨v, rfl, hN.out _ (fun k_ h1 h2 => rfl), pw_below_drewN hbel2.out _⟩
/-- The whole answer of a check: of a signature, then of a row. -/
def chk (sig : List S85) (t : List Int) : Int := if sigErr sig = 0 then termErr sig t else sigErr sig
theorem sigFrom_ok (sig : List S85) : ∀ k i, sigFrom sig k i = 0 → ∀ j, i ≤ j → j < i + k → j < sig.length → sigStep sig j = 0 := by
  intro k
  induction k with
  | zero => intro i _ j h1 h2; omega
  | succ k ih =>
    intro i h j h1 h2 h3
    rw [sigFrom, if_pos (by omega)] at h
    by_cases hs : sigStep sig i = 0
    · rw [if_pos hs] at h
      by_cases e : j = i
      · rw [e]; exact hs
      · exact ih (i + 1) h j (by omega) (by omega) h3
    · rw [if_neg hs] at h
      exact absurd h hs
theorem sig_len {sig : List S85} (h : sigErr sig = 0) : sig.length ≤ 128 := by
  rw [sigErr] at h
  split at h
  · simp at h
  · omega
theorem sig_ar {sig : List S85} (h : sigErr sig = 0) : arOk sig := by
  intro i hi
  have hl := sig_len h
  rw [sigErr, if_neg (by omega)] at h
  have hs := sigFrom_ok sig 129 0 h i (Nat.zero_le _) (by omega) hi
  rw [sigStep] at hs
  split at hs
  · simp at hs
  · split at hs
    · simp at hs
    · omega
set_option maxHeartbeats 4000000 in
set_option maxRecDepth 100000 in
theorem tree_calls (l0 : List S85) (l1 : List Int) (A0 A1 : Option Addr) (c0 c1 : Nat) (w : World) (hF : sigFine l0) (hl1 : l1.length ≤ 17592186044416) (hr0 : Kd.C k85 w A0 l0.length l0) (hc0 : l0.length ≤ c0) (hr1 : Kd.C (Kd.int .i64) w A1 l1.length l1) (hT : Tabs w) :
    Calls Tryd.prog 53 #[.slice A0 l0.length c0, .slice A1 l1.length c1] w fun e w' => ∃ v, e = .returned (.tuple #[v, .int .i64 (chk l0 l1)]) ∧ Aside0 (sigErr l0 = 0 → NodeV w' v (shOf l0 l1)) ∧ Below w.heap.size w w' := by
  have cS := checkSig_calls A0 c0 l0 w hr0 hc0 hF hT
  by_cases he : sigErr l0 = 0
  · have E := Aside0.mk (show chk l0 l1 = termErr l0 l1 by rw [chk, if_pos he])
    have cG := fun (w1 : World) (hb : Below w.heap.size w w1) => grown_calls l0 l1 A0 A1 c0 c1 w1 (sig_ar he) hl1 (Kd.C_below hr0 hb) (Kd.C_below hr1 hb)
    rw [he] at cS
    have CG := Aside0.mk cG
    clear cG hr0 hr1 hF hT hc0 he
    go_enter Tryd.func53, Tryd.ntmps53
    go_wp2_with (first | (go_at_call 73; refine cS.mono ?_; rintro e w1 ⟨rfl, hb1⟩) | (go_at_call 74; refine (CG.out _ ?hs).mono ?_; (case hs => exact hb1); rintro e w2 ⟨v, rfl, hN, hb2⟩; replace hN := Aside0.mk hN))
    go_ret2
    rw [E.out]
    exact ⟨v, rfl, ⟨fun _ => hN.out⟩, below_step hb1 hb2⟩
  · have E := Aside0.mk (show chk l0 l1 = sigErr l0 by rw [chk, if_neg he])
    have hne : (sigErr l0 != 0) = true := bne_iff_ne.mpr he
    have HE := Aside0.mk he
    clear hr0 hr1 hF hT hc0 he
    go_enter Tryd.func53, Tryd.ntmps53
    go_wp2_with (first | (go_at_call 73; refine cS.mono ?_; rintro e w1 ⟨rfl, hb1⟩))
    go_ret2
    rw [E.out]
    exact ⟨_, rfl, ⟨fun h => absurd h HE.out⟩, hb1⟩
/-- (term.Check): a given function of the print. -/
noncomputable def term_Check.f (l0 : List S85) (l1 : List Int) : Option Int := open Classical in if sigFine l0 ∧ l1.length ≤ 17592186044416 then some (chk l0 l1) else none
set_option maxHeartbeats 4000000 in
set_option maxRecDepth 100000 in
theorem term_Check.calls (A0 : Option Addr) (c0 : Nat) (l0 : List S85) (A1 : Option Addr) (c1 : Nat) (l1 : List Int) (r : Int) (w : World) (hr0 : Kd.C k85 w A0 l0.length l0) (hc0 : l0.length ≤ c0) (hr1 : Kd.C (Kd.int .i64) w A1 l1.length l1) (hc1 : l1.length ≤ c1) (h : term_Check.f l0 l1 = some r) (hT : Tabs w) :
    Calls Tryd.prog 29 #[.slice A0 l0.length c0, .slice A1 l1.length c1] w fun e w' => e = .returned (.int .i64 r) ∧ Below w.heap.size w w' := by
  have hg : sigFine l0 ∧ l1.length ≤ 17592186044416 := by
    apply Classical.byContradiction
    intro hn
    rw [term_Check.f, if_neg hn] at h
    simp at h
  rw [term_Check.f, if_pos hg] at h
  obtain rfl := Option.some.inj h
  have cT := tree_calls l0 l1 A0 A1 c0 c1 w hg.1 hg.2 hr0 hc0 hr1 hT
  clear h hg hr0 hr1 hc0 hc1 hT
  generalize chk l0 l1 = r at *
  go_enter Tryd.func29, Tryd.ntmps29
  go_wp2_with (first | (go_at_call 53; refine cT.mono ?_; rintro e w1 ⟨v, rfl, hN, hb1⟩))
  go_ret
  exact ⟨rfl, hb1⟩
end Go.Proofs.YtjckddaaeiffpaaDoor.Z