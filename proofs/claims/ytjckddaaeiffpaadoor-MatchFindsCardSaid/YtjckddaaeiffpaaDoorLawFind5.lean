/- (law05.MatchFinds): the law's own walk: it stores into the binds that it was told. -/
import Derived.Test.YtjckddaaeiffpaaDoorZ0
import Derived.Test.YtjckddaaeiffpaaDoorZ0d
import Derived.Test.YtjckddaaeiffpaaDoorZ1c
import Derived.Test.YtjckddaaeiffpaaDoorExtClone
import Derived.Test.YtjckddaaeiffpaaDoorExtMatch
import Derived.Test.YtjckddaaeiffpaaDoorExtName
import Derived.Test.YtjckddaaeiffpaaDoorExtShown5
import Derived.Outline
namespace Go.Proofs.YtjckddaaeiffpaaDoor.Z
open Go.RowKit Go.Proofs.YtjckddaaeiffpaaDoorW.PrintWords Go.Proofs.YtjckddaaeiffpaaDoorW.PrintLast Go.Proofs.YtjckddaaeiffpaaDoorW.PrintMore
attribute [local go_sem] max2_int min2_int max_two min_two max_three min_three max_four min_four   -- for this text's walks alone
set_option linter.unusedVariables false
set_option linter.unusedSimpArgs false

theorem B_at {W : World} {base g n cap i : Nat} {ok : Nat → Prop} {xs : List S30} (h : Kd.S k30 30 W base ok (.slice (some ⟨g, 0, none⟩) n cap) xs) (hi : i < n) :
    ∃ (oki : Nat → Prop) (v1 : Value), (Kd.int .i64).R 3 W base oki v1 (xs.getD i z30).f1 ∧ W.cell? ⟨g, i * 2 + 1, none⟩ = some v1 ∧ W.frozen? ⟨g, i * 2 + 1, none⟩ = false ∧ (∀ k, oki k → ok k ∧ k ≠ g) ∧
      Kd.H k30 30 W base ok (.slice (some ⟨g, 0, none⟩) n cap) xs i oki [.int .i64 (xs.getD i z30).f0, v1] := by
  obtain ⟨oki, c, hcl, hM, hcc, hoki, hH⟩ := Kd.S_lend h z30 (i : Int) (by omega) (by omega)
  rw [Int.toNat_natCast] at hM hcc
  obtain ⟨v1, rfl, hR⟩ := k30_openM hM
  obtain ⟨_, hf⟩ := Kd.H_at hH (by omega) (by omega)
  rw [Int.toNat_natCast] at hf
  exact ⟨oki, v1, hR, hcc 1 _ rfl, hf 1, hoki, hH⟩
/-- A cell of an element's row is written. -/
theorem B_cell {W : World} {base g n cap i k : Nat} {ok : Nat → Prop} {xs : List S30} (h : Kd.S k30 30 W base ok (.slice (some ⟨g, 0, none⟩) n cap) xs) (hi : i < n) (hk : k < (xs.getD i z30).f1.length) :
    ∃ g2 cap2, W.cell? ⟨g, i * 2 + 1, none⟩ = some (.slice (some ⟨g2, 0, none⟩) (xs.getD i z30).f1.length cap2) ∧ (∃ u, W.cell? ⟨g2, k, none⟩ = some u) ∧ W.frozen? ⟨g2, k, none⟩ = false ∧ base ≤ g2 ∧
      ∀ x : Int, Kd.S k30 30 (W.setCell ⟨g2, k, none⟩ (.int .i64 x)) base ok (.slice (some ⟨g, 0, none⟩) n cap) (xs.set i ⟨(xs.getD i z30).f0, (xs.getD i z30).f1.set k x⟩) ∧ W.grownBy (W.setCell ⟨g2, k, none⟩ (.int .i64 x)) (some g2) := by
  obtain ⟨oki, v1, hR, hc, hf, hoki, hH⟩ := B_at h hi
  obtain ⟨g2, cap2, rfl, hg2, _, _⟩ := Kd.R_form hR (by omega)
  obtain ⟨h1, h2⟩ := Kd.R_cell (0 : Int) hR (k : Int) (by omega) (by omega)
  rw [Int.toNat_natCast] at h1 h2
  have ho2 := hR.1 g2 (by simp [Value.ownBlock])
  refine ⟨g2, cap2, hc, ⟨_, h1⟩, h2, hg2, fun x => ?_⟩
  obtain ⟨h3, h4⟩ := Kd.R_put hR (k : Int) x
  rw [Int.toNat_natCast] at h3 h4
  refine ⟨?_, h4⟩
  have := Kd.H_back (x' := ⟨(xs.getD i z30).f0, (xs.getD i z30).f1.set k x⟩) (okp := oki) (Kd.H_grown hH h4 (fun k_ e_ => by cases e_; exact ho2)) (k30_mkM _ _ _ ⟨_, (xs.getD i z30).f1.set k x⟩ h3) (fun _ hk => hk)
  rwa [Int.toNat_natCast] at this
/-- An element's row is another one (what an append has left). -/
theorem B_row {W W1 : World} {base g n cap i : Nat} {ok oki : Nat → Prop} {xs : List S30} {v1 v5 : Value} {t : List Int} (hH : Kd.H k30 30 W base ok (.slice (some ⟨g, 0, none⟩) n cap) xs i oki [.int .i64 (xs.getD i z30).f0, v1]) (hi : i < n)
    {row : Option Nat} (hg : W.grownBy W1 row) (hrow : ∀ k, row = some k → oki k) (hok : ∀ k, W.heap.size ≤ k → ok k) (hR : (Kd.int .i64).R 3 W1 base (fun k => oki k ∨ W.heap.size ≤ k) v5 t) :
    W1.cell? ⟨g, i * 2 + 1, none⟩ = some v1 ∧ W1.frozen? ⟨g, i * 2 + 1, none⟩ = false ∧ Kd.S k30 30 (W1.setCell ⟨g, i * 2 + 1, none⟩ v5) base ok (.slice (some ⟨g, 0, none⟩) n cap) (xs.set i ⟨(xs.getD i z30).f0, t⟩) ∧ W1.grownBy (W1.setCell ⟨g, i * 2 + 1, none⟩ v5) (some g) := by
  have hH1 := Kd.H_grown (Kd.H_widen hH) hg (fun k hk => .inl (hrow k hk))
  obtain ⟨hc1, hf1⟩ := Kd.H_at hH1 (by omega) (by omega)
  rw [Int.toNat_natCast] at hc1 hf1
  have hM1 : k30.M W1 base (fun k => oki k ∨ W.heap.size ≤ k) ⟨(xs.getD i z30).f0, t⟩ ([Value.int .i64 (xs.getD i z30).f0, v1].take 1 ++ [v5] ++ [Value.int .i64 (xs.getD i z30).f0, v1].drop (1 + [v5].length)) := k30_mkM _ _ _ ⟨(xs.getD i z30).f0, t⟩ hR
  have := Kd.S_seg0 (j := 1) (seg := [v5]) hH1 (by omega) (by omega) (by show 1 + 1 ≤ 2; omega) hM1 (fun k hk => hk.elim .inl (fun h2 => .inr ⟨hok k h2, h2⟩))
  rw [Int.toNat_natCast] at this
  exact ⟨hc1 1 _ rfl, hf1 1, this⟩
/-- What holds of the binds while they are written over, and of all else. -/
structure F5 (w w6 wx : World) (b10 lim : Nat) (v10 : Value) (n i : Nat) (xs : List S30) : Prop where
  len : xs.length = n
  sz : ∀ j, i ≤ j → j < n → (xs.getD j z30).f1.length ≤ 17592186043904
  own : Kd.S k30 30 wx w.heap.size (fun k => (b10 ≤ k ∧ k < lim) ∨ w6.heap.size ≤ k) v10 xs
  kept : Kept w6 wx (fun k => b10 ≤ k ∧ k < lim)
  bel : Below w.heap.size w wx
theorem F5.drawn {w w6 wx : World} {b10 lim : Nat} {v10 : Value} {n i : Nat} {xs : List S30} (h : F5 w w6 wx b10 lim v10 n i xs) (m : Nat) : F5 w w6 (wx.drewN m) b10 lim v10 n i xs :=
  { h with own := Kd.S_drewN h.own m, kept := h.kept.drewN m, bel := pw_below_drewN h.bel m }
theorem F5.next {w w6 wx : World} {b10 lim : Nat} {v10 : Value} {n i : Nat} {xs : List S30} (h : F5 w w6 wx b10 lim v10 n i xs) : F5 w w6 wx b10 lim v10 n (i + 1) xs :=
  { h with sz := fun j h1 h2 => h.sz j (by omega) h2 }
theorem F5.cell {w w6 wx : World} {b10 lim g n cap i k : Nat} {xs : List S30} (h : F5 w w6 wx b10 lim (.slice (some ⟨g, 0, none⟩) n cap) n i xs) (hi : i < n) (hk : k < (xs.getD i z30).f1.length) (hb : w.heap.size ≤ b10) (h6 : w.heap.size ≤ w6.heap.size) :
    ∃ g2 cap2, wx.cell? ⟨g, i * 2 + 1, none⟩ = some (.slice (some ⟨g2, 0, none⟩) (xs.getD i z30).f1.length cap2) ∧ (∃ u, wx.cell? ⟨g2, k, none⟩ = some u) ∧ wx.frozen? ⟨g2, k, none⟩ = false ∧
      ∀ x : Int, ∃ xs', F5 w w6 (wx.setCell ⟨g2, k, none⟩ (.int .i64 x)) b10 lim (.slice (some ⟨g, 0, none⟩) n cap) n i xs' ∧ (xs'.getD i z30).f1.length = (xs.getD i z30).f1.length := by
  obtain ⟨oki, v1, hR, hc0, _, hoki, hH⟩ := B_at h.own hi
  obtain ⟨g2, cap2, hc, hu, hf, hg2, hx⟩ := B_cell h.own hi hk
  have hv1 : v1 = .slice (some ⟨g2, 0, none⟩) (xs.getD i z30).f1.length cap2 := Option.some.inj (hc0.symm.trans hc)
  have hg2ok := (hoki g2 (hR.1 g2 (by rw [hv1]; rfl))).1
  refine ⟨g2, cap2, hc, hu, hf, fun x => ⟨xs.set i ⟨(xs.getD i z30).f0, (xs.getD i z30).f1.set k x⟩, ?_, ?_⟩⟩
  · obtain ⟨h1, h2⟩ := hx x
    refine { len := by rw [List.length_set]; exact h.len, sz := fun j h3 h4 => ?_, own := h1, kept := Kept.of_grown h2 h.kept (fun k hk => by cases hk; exact hg2ok), bel := h.bel.grown h2 h.bel.size (fun k hk => by cases hk; exact hg2) }
    by_cases e : j = i
    · subst e
      rw [List.getD_eq_getElem?_getD, List.getElem?_set_self (by rw [h.len]; exact h4)]
      show ((xs.getD j z30).f1.set k x).length ≤ _
      rw [List.length_set]
      exact h.sz j h3 h4
    · rw [List.getD_eq_getElem?_getD, List.getElem?_set_ne (by omega), ← List.getD_eq_getElem?_getD]
      exact h.sz j h3 h4
  · rw [List.getD_eq_getElem?_getD, List.getElem?_set_self (by rw [h.len]; exact hi)]
    show ((xs.getD i z30).f1.set k x).length = _
    rw [List.length_set]
/-- An element's row is lent, and given back longer. -/
theorem F5.row {w w6 wx : World} {b10 lim g n cap i : Nat} {xs : List S30} (h : F5 w w6 wx b10 lim (.slice (some ⟨g, 0, none⟩) n cap) n i xs) (hi : i < n) (hb : w.heap.size ≤ b10) (h6 : w.heap.size ≤ w6.heap.size) :
    ∃ (oki : Nat → Prop) (A1 : Option Addr) (c1 : Nat), wx.cell? ⟨g, i * 2 + 1, none⟩ = some (.slice A1 (xs.getD i z30).f1.length c1) ∧ wx.frozen? ⟨g, i * 2 + 1, none⟩ = false ∧ (Kd.int .i64).R 3 wx w.heap.size (fun k => oki k ∨ wx.heap.size ≤ k) (.slice A1 (xs.getD i z30).f1.length c1) (xs.getD i z30).f1 ∧
      ∀ (w5 : World) (v5 : Value) (t : List Int), wx.grownBy w5 (Value.slice A1 (xs.getD i z30).f1.length c1).ownBlock → (Kd.int .i64).R 3 w5 w.heap.size (fun k => oki k ∨ wx.heap.size ≤ k) v5 t → (∃ u, w5.cell? ⟨g, i * 2 + 1, none⟩ = some u) ∧ w5.frozen? ⟨g, i * 2 + 1, none⟩ = false ∧
        ∃ xs', F5 w w6 (w5.setCell ⟨g, i * 2 + 1, none⟩ v5) b10 lim (.slice (some ⟨g, 0, none⟩) n cap) n (i + 1) xs' := by
  obtain ⟨oki, v1, hR, hc0, hf, hoki, hH⟩ := B_at h.own hi
  obtain ⟨A1, c1, hv1⟩ := Kd.R_slice hR
  subst hv1
  refine ⟨oki, A1, c1, hc0, hf, Kd.R_mono hR (fun _ hk => .inl hk), fun w5 v5 t hg hR5 => ?_⟩
  have hrow : ∀ k, (Value.slice A1 (xs.getD i z30).f1.length c1).ownBlock = some k → oki k := fun k hk => hR.1 k hk
  have hrb : ∀ k, (Value.slice A1 (xs.getD i z30).f1.length c1).ownBlock = some k → w.heap.size ≤ k := fun k hk => Kd.R_base hR k hk
  obtain ⟨h1, h2, h3, h4⟩ := B_row hH hi hg hrow (fun k hk => .inr (Nat.le_trans h.kept.1 hk)) hR5
  have hgb : w.heap.size ≤ g := Kd.S_base h.own g rfl
  have hgok := (Kd.S_R h.own).1 g rfl
  refine ⟨⟨_, h1⟩, h2, _, { len := by rw [List.length_set]; exact h.len, sz := fun j h5 h6 => ?_, own := h3, kept := Kept.of_grown h4 (Kept.of_grown hg h.kept (fun k hk => (hoki k (hrow k hk)).1)) (fun k hk => by cases hk; exact hgok), bel := (h.bel.grown hg h.bel.size (fun k hk => hrb k hk)).grown h4 (Nat.le_trans h.bel.size hg.size) (fun k hk => by cases hk; exact hgb) }⟩
  rw [List.getD_eq_getElem?_getD, List.getElem?_set_ne (by omega), ← List.getD_eq_getElem?_getD]
  exact h.sz j (by omega) h6
set_option maxHeartbeats 8000000 in
set_option maxRecDepth 100000 in
theorem find5_calls (k : Nat) (A0 : Option Addr) (c0 : Nat) (l0 : List S85) (A1 : Option Addr) (c1 : Nat) (l1 : List Int) (A2 : Option Addr) (c2 : Nat) (l2 : List Int) (r1 : List S30) (r2 : Bool) (w : World) (hr0 : Kd.C k85 w A0 l0.length l0) (hc0 : l0.length ≤ c0) (hr1 : Kd.C (Kd.int .i64) w A1 l1.length l1) (hc1 : l1.length ≤ c1) (hr2 : Kd.C (Kd.int .i64) w A2 l2.length l2) (hc2 : l2.length ≤ c2)
    (hF : match_Match.f l0 l1 l2 = some (r1, r2)) (hG : lodestoneref05_Match.f k l0 l1 l2 = some (r1, r2)) (hS : lodestonelaw05_same.f k r1 r1 = some true) (hs1 : lodestonelaw05_sameRow.f k l1 l1 = some true) (hs2 : lodestonelaw05_sameRow.f k l2 l2 = some true) (hl1 : l1.length ≤ 17592186043904) (hl2 : l2.length ≤ 17592186043904) (hrl : r1.length ≤ 9223372036854775800) (hrz : ∀ x, x ∈ r1 → x.f1.length ≤ 17592186043904) (hT : Tabs w) :
    Calls Tryd.prog 3 #[.slice A0 l0.length c0, .slice A1 l1.length c1, .slice A2 l2.length c2] w fun e w' => e = .returned (.bool true) ∧ Below w.heap.size w w' := by
  have HT := Aside0.mk hT
  have HR0 := Aside0.mk hr0
  have HR1 := Aside0.mk hr1
  have HR2 := Aside0.mk hr2
  have HF := Aside0.mk hF
  have HG := Aside0.mk hG
  have HS := Aside0.mk hS
  have HS1 := Aside0.mk hs1
  have HS2 := Aside0.mk hs2
  have HRZ := Aside0.mk hrz
  clear hT hr0 hr1 hr2 hF hG hS hs1 hs2 hrz
  go_enter Tryd.func3, Tryd.ntmps3
  go_wp2_with (first | (go_at_call 10; refine (lodestonelaw05_shown.calls true w rfl HT.out).mono ?_; rintro e w1 ⟨rfl, hb1⟩; replace hb1 := Aside0.mk hb1) | (at_builtin; refine Kd.R_append_row (Value.int .i64) (0 : Int) (h1 := fun _ => rfl) (w0 := w) w.heap.size rfl _ _ 23 3 (.int .i64 0) 8 rfl Tryd.underlying23 info3 rfl (by decide) _ [] l1 A1 l1.length c1 (fun _ => True) rfl rfl (fun _ _ => trivial) ?aO ?aR ?aB ?aS ?aL ?_))
  case aO => exact lit_R [] (blk_new _ _) hb1.out.size (by simp)
  case aR => exact Kd.C_below HR1.out (below_alloc hb1.out _)
  case aB => exact below_alloc hb1.out _
  case aS => exact (below_alloc hb1.out _).size
  case aL => simp only [List.length_nil]; omega
  intro v8 w2 hR8 hb2 _ _
  replace hR8 := Aside0.mk hR8
  replace hb2 := Aside0.mk hb2
  clear hb1
  go_wp2_with (first | (at_builtin; refine Kd.R_append_row (Value.int .i64) (0 : Int) (h1 := fun _ => rfl) (w0 := w2) w2.heap.size rfl _ _ 23 3 (.int .i64 0) 8 rfl Tryd.underlying23 info3 rfl (by decide) _ [] l2 A2 l2.length c2 (fun _ => True) rfl rfl (fun _ _ => trivial) ?bO ?bR ?bB ?bS ?bL ?_))
  case bO => exact lit_R [] (blk_new _ _) (Nat.le_refl _) (by simp)
  case bR => exact Kd.C_below HR2.out (below_alloc hb2.out _)
  case bB => exact below_alloc (Below.refl _ _) _
  case bS => exact (below_alloc (Below.refl _ _) _).size
  case bL => simp only [List.length_nil]; omega
  intro v9 w3 hR9 hb3 _ _
  obtain ⟨A8, c8, hv8, hc8, _⟩ := Kd.R_reads hR8.out
  subst hv8
  obtain ⟨A9, c9, hv9, hc9, _⟩ := Kd.R_reads hR9
  subst hv9
  have h83 := hb3.size
  have F8 := Aside0.mk (Kd.F_mono (Kd.F_bound (Kd.R_F (Kd.R_below hR8.out hb3))) (ok' := fun k => k < w3.heap.size) (fun k hk => hk.2))
  have F9 := Aside0.mk (Kd.F_mono (Kd.F_bound (Kd.R_F hR9)) (ok' := fun k => k < w3.heap.size) (fun k hk => hk.2))
  have hb3' := Aside0.mk (below_step hb2.out hb3)
  clear hR8 hR9 hb2 hb3
  have cM := fun (W : World) (hb : Below w.heap.size w W) (h8 : Kd.C (Kd.int .i64) W A8 l1.length l1) (h9 : Kd.C (Kd.int .i64) W A9 l2.length l2) => match_Match.calls A0 c0 l0 A8 c8 l1 A9 c9 l2 r1 r2 W (Kd.C_below HR0.out hb) hc0 h8 hc8 h9 hc9 HF.out (HT.out.below hb)
  have CM := Aside0.mk cM
  have cS := fun (W : World) (A B : Option Addr) (c d : Nat) (hA : Kd.C k30 W A r1.length r1) (hc : r1.length ≤ c) (hB : Kd.C k30 W B r1.length r1) (hd : r1.length ≤ d) => lodestonelaw05_same.calls k A c r1 B d r1 true W hA hc hB hd HS.out
  have CS := Aside0.mk cS
  clear cM cS
  go_wp2_with fail
  refine (CM.out _ hb3'.out (Kd.F_now F8.out) (Kd.F_now F9.out)).mono ?_
  rintro e w4 ⟨v10, rfl, hS10, hb4⟩
  obtain ⟨A10, c10, hv10, hc10, _⟩ := Kd.S_reads hS10
  subst hv10
  replace hS10 := Aside0.mk hS10
  have h34 := hb4.size
  have F8 := Aside0.mk (Kd.F_below F8.out hb4)
  have F9 := Aside0.mk (Kd.F_below F9.out hb4)
  have hb4' := Aside0.mk (below_step hb3'.out hb4)
  clear hb4
  go_wp2_with fail
  refine (lodestoneref05_Match.calls k A0 c0 l0 A1 c1 l1 A2 c2 l2 r1 r2 _ (Kd.C_below HR0.out hb4'.out) hc0 (Kd.C_below HR1.out hb4'.out) hc1 (Kd.C_below HR2.out hb4'.out) hc2 HG.out).mono ?_
  rintro e w5 ⟨v12, rfl, hN12, hb5⟩
  obtain ⟨A12, c12, hv12, hc12, _⟩ := Kd.N_reads hN12
  subst hv12
  have h45 := hb5.size
  have F12 := Aside0.mk (Kd.N_F hN12)
  have F8 := Aside0.mk (Kd.F_below F8.out hb5)
  have F9 := Aside0.mk (Kd.F_below F9.out hb5)
  have hS10' := Aside0.mk (Kd.S_below (Kd.S_bound hS10.out) hb5)
  have hb5' := Aside0.mk (below_step hb4'.out hb5)
  clear hN12 hb5 hS10 hb4'
  have C10 := Aside0.mk (Kd.S_reads' hS10'.out).2.2
  go_wp2_with fail
  refine (CS.out _ A10 A12 c10 c12 C10.out hc10 (Kd.F_now F12.out) hc12).mono ?_
  rintro e w6 ⟨rfl, ⟨nd, rfl⟩⟩
  have I0 : F5 w (w5.drewN nd) (w5.drewN nd) w3.heap.size w4.heap.size (.slice A10 r1.length c10) r1.length 0 r1 := {
    len := rfl, sz := fun j _ hj => HRZ.out _ (by rw [List.getD_eq_getElem?_getD, List.getElem?_eq_getElem hj]; exact List.getElem_mem hj),
    own := Kd.S_lower (Kd.S_mono (Kd.S_drewN hS10'.out nd) (fun k hk => .inl ⟨hk.2.1, hk.2.2.1⟩)) hb3'.out.size,
    kept := Kept.refl _ _, bel := pw_below_drewN hb5'.out nd }
  have hw6 : w.heap.size ≤ w3.heap.size := hb3'.out.size
  have hw7 : w.heap.size ≤ (w5.drewN nd).heap.size := hb5'.out.size
  have hw8 : w4.heap.size ≤ (w5.drewN nd).heap.size := h45
  have F8 := Aside0.mk (Kd.F_drewN F8.out nd)
  have F9 := Aside0.mk (Kd.F_drewN F9.out nd)
  have F12 := Aside0.mk (Kd.F_drewN F12.out nd)
  clear hS10' hb5' hb3'
  generalize w5.drewN nd = w6 at *
  have I0 := Aside0.mk I0
  go_wp2_with fail
  go_loopg [15] (r1.length + 1) (fun kq v15 wx => ∃ (i : Nat) (xs : List S30), v15 = .int .i64 i ∧ kq + i = r1.length + 1 ∧ i ≤ r1.length ∧ F5 w w6 wx w3.heap.size w4.heap.size (.slice A10 r1.length c10) r1.length i xs)
  case atStart => exact ⟨0, r1, rfl, by omega, by omega, I0.out⟩
  case round =>
    obtain ⟨i, xs, rfl, hkq, hile, hI⟩ := hrel
    by_cases hi : i < r1.length
    · obtain ⟨k1, rfl⟩ : ∃ k1, gk = k1 + 1 := ⟨gk - 1, by omega⟩
      obtain ⟨g, cap, hv, _⟩ := Kd.S_form hI.own (by rw [hI.len]; omega)
      obtain ⟨rfl, rfl⟩ : A10 = some ⟨g, 0, none⟩ ∧ c10 = cap := by injection hv with e1 e2 e3; exact ⟨e1, e3⟩
      have pa : ((0 : Int) ≤ (i : Int)) = True := eq_true (by omega)
      have qa : ((i : Int) < (r1.length : Int)) = True := eq_true (by omega)
      have hI' := Aside0.mk hI
      have hsz := hI.sz i (Nat.le_refl _) hi
      obtain ⟨L, hL⟩ : ∃ L, L = (xs.getD i z30).f1.length := ⟨_, rfl⟩
      have hLb : L ≤ 17592186043904 := by rw [hL]; exact hsz
      have HL := Aside0.mk hL
      clear hI hv hL hsz
      go_wp2_with fail
      go_loopg [16] (L + 1) (fun kq2 v16 wx => ∃ (m : Nat) (ys : List S30), v16 = .int .i64 m ∧ kq2 + m = L + 1 ∧ m ≤ L ∧ (ys.getD i z30).f1.length = L ∧ F5 w w6 wx w3.heap.size w4.heap.size (.slice (some ⟨g, 0, none⟩) r1.length c10) r1.length i ys)
      case atStart => exact ⟨0, xs, rfl, by omega, by omega, HL.out.symm, hI'.out⟩
      case round =>
        obtain ⟨m, ys, rfl, hkq2, hmle, hyL, hI⟩ := hrel
        have HYL := Aside0.mk hyL
        by_cases hm : m < L
        · obtain ⟨k2, rfl⟩ : ∃ k2, gk = k2 + 1 := ⟨gk - 1, by omega⟩
          obtain ⟨g2, cap2, h1, ⟨u, h2⟩, h3, h4⟩ := hI.cell (k := m) hi (by omega) hw6 hw7
          rw [hyL] at h1 h4
          have H4 := Aside0.mk (h4 99)
          have pm : ((0 : Int) ≤ (m : Int)) = True := eq_true (by omega)
          have qm : ((m : Int) < (L : Int)) = True := eq_true (by omega)
          clear hI h4 hyL
          have a1 : (⟨g2, 0, none⟩ : Addr).add m = ⟨g2, m, none⟩ := addr_add g2 0 m |>.trans (by rw [Nat.zero_add])
          go_wp2_with fail
          go_roundg k2
          case measure => omega
          case rel =>
            obtain ⟨ys', h5, h6⟩ := H4.out
            exact ⟨m + 1, ys', by go_num, by omega, by omega, h6, h5⟩
        · obtain rfl : m = L := by omega
          obtain ⟨oki, A5, c5, h1, h2, h3, h4⟩ := hI.row hi hw6 hw7
          rw [hyL] at h1 h3 h4
          have H3 := Aside0.mk h3
          have H4 := Aside0.mk h4
          have HBI := Aside0.mk hI.bel
          clear hI h3 h4 hyL
          go_wp2_with (first | (at_builtin; refine Kd.R_append (Kd.int .i64) (w0 := w) w.heap.size rfl _ _ 23 3 (.int .i64 0) 8 rfl Tryd.underlying23 info3 rfl (by decide) (by omega) (.slice A5 m c5) (ys.getD i z30).f1 98 [.int .i64 98] (fun k => oki k ∨ wr.heap.size ≤ k) (fun _ => False) rfl rfl ?cP (fun _ h => h.elim) (fun k hk => .inr hk) ?cO ?cB ?cS ?cL ?_))
          case cP => rfl
          case cO => exact H3.out
          case cB => exact HBI.out
          case cS => exact HBI.out.size
          case cL => rw [HYL.out]; omega
          intro v5 w5' hR5 hb5 hg5 _
          obtain ⟨A6, c6, hv5⟩ : ∃ A6 c6, v5 = .slice A6 (m + 1) c6 := by
            obtain ⟨A, c, e⟩ := Kd.R_slice hR5
            have hl := HYL.out
            rw [List.getD_eq_getElem?_getD] at hl
            exact ⟨A, c, by rw [e, List.length_append, hl]; rfl⟩
          subst hv5
          obtain ⟨⟨u, h5⟩, h6, h7⟩ := H4.out w5' _ _ hg5 hR5
          have H7 := Aside0.mk h7
          clear h7 hR5 hb5 hg5 H4 H3
          go_wp2_with fail
          go_roundg k1
          case measure => omega
          case rel =>
            obtain ⟨xs', h8⟩ := H7.out
            exact ⟨i + 1, xs', by go_num, by omega, by omega, h8⟩
    · obtain rfl : i = r1.length := by omega
      have hB := Aside0.mk hI.bel
      have hK := Aside0.mk hI.kept
      have F8 := Aside0.mk (Kd.F_kept F8.out hK.out (fun k h1 h2 => by omega))
      have F9 := Aside0.mk (Kd.F_kept F9.out hK.out (fun k h1 h2 => by omega))
      have F12 := Aside0.mk (Kd.F_kept F12.out hK.out (fun k h1 h2 => by omega))
      have cR1 := lodestonelaw05_sameRow.calls k A8 c8 l1 A1 c1 l1 true wr (Kd.F_now F8.out) hc8 (Kd.C_below HR1.out hB.out) hc1 HS1.out
      have cR2 := fun W (h : Drawn0 wr W) => lodestonelaw05_sameRow.calls k A9 c9 l2 A2 c2 l2 true W (Kd.C_below (Kd.F_now F9.out) h.below) hc9 (Kd.C_below (Kd.C_below HR2.out hB.out) h.below) hc2 HS2.out
      have CR1 := Aside0.mk cR1
      have CR2 := Aside0.mk cR2
      clear hI cR1 cR2
      go_wp2_with fail
      refine CR1.out.mono ?_
      rintro e w7 ⟨rfl, ⟨n7, rfl⟩⟩
      go_wp2_with fail
      refine (CR2.out _ ⟨n7, rfl⟩).mono ?_
      rintro e w7 ⟨rfl, ⟨n8, rfl⟩⟩
      have hB := Aside0.mk (pw_below_drewN (pw_below_drewN hB.out n7) n8)
      have F8 := Aside0.mk (Kd.F_drewN (Kd.F_drewN F8.out n7) n8)
      have F9 := Aside0.mk (Kd.F_drewN (Kd.F_drewN F9.out n7) n8)
      have F12 := Aside0.mk (Kd.F_drewN (Kd.F_drewN F12.out n7) n8)
      clear CR1 CR2 hK
      generalize (wr.drewN n7).drewN n8 = w8 at *
      go_wp2_with fail
      refine (CM.out _ hB.out (Kd.F_now F8.out) (Kd.F_now F9.out)).mono ?_
      rintro e w9 ⟨v18, rfl, hS18, hb9⟩
      obtain ⟨A18, c18, hv18, hc18, hC18⟩ := Kd.S_reads hS18
      subst hv18
      have HC18 := Aside0.mk hC18
      have F12 := Aside0.mk (Kd.F_below F12.out hb9)
      have hB := Aside0.mk (below_step hB.out hb9)
      clear hS18 hC18 hb9
      go_wp2_with fail
      refine (CS.out _ A18 A12 c18 c12 HC18.out hc18 (Kd.F_now F12.out) hc12).mono ?_
      rintro e w9 ⟨rfl, ⟨n9, rfl⟩⟩
      have hB := Aside0.mk (pw_below_drewN hB.out n9)
      go_wp2_with fail
      go_ret
      exact ⟨rfl, hB.out⟩
end Go.Proofs.YtjckddaaeiffpaaDoor.Z
