/- subst.Canon: a given function of the print: variables numbered anew, as they are met. -/
import Derived.Test.YtjckddaaeiffpaaDoorZ0
import Derived.Test.YtjckddaaeiffpaaDoorExtClone
import Derived.Test.YtjckddaaeiffpaaDoorExtMap
import Derived.Test.YtjckddaaeiffpaaDoorExtMatch
import Derived.Test.YtjckddaaeiffpaaDoorExtTree
import Derived.Test.YtjckddaaeiffpaaDoorPureTerm
import Derived.Outline
import Derived.Deep.RegionWith
import Derived.Laws.BitsLemmas
namespace Go.Proofs.YtjckddaaeiffpaaDoor.Z
open Go.RowKit Go.Proofs.YtjckddaaeiffpaaDoorW.PrintWords Go.Proofs.YtjckddaaeiffpaaDoorW.PrintLast Go.Proofs.YtjckddaaeiffpaaDoorW.PrintMore
attribute [local go_sem] max2_int min2_int max_two min_two max_three min_three max_four min_four   -- for this text's walks alone
set_option linter.unusedVariables false
set_option linter.unusedSimpArgs false

abbrev kL : Kd (List Int) := Kd.slice 3 (Kd.int .i64)
theorem L_put {W W1 : World} {base g n cap i : Nat} {ok : Nat → Prop} {xs : List (List Int)} {v : Value} {t : List Int} (h : Kd.S kL 23 W base ok (.slice (some ⟨g, 0, none⟩) n cap) xs) (hi : i < n) (hb : Below W.heap.size W W1) (hbase : base ≤ W.heap.size)
    (hfr : ∀ k, W.heap.size ≤ k → k < W1.heap.size → ok k) (hv : (Kd.int .i64).R 3 W1 W.heap.size (fun _ => True) v t) :
    (∃ u, W1.cell? ⟨g, i, none⟩ = some u) ∧ W1.frozen? ⟨g, i, none⟩ = false ∧ Kd.S kL 23 (W1.setCell ⟨g, i, none⟩ v) base ok (.slice (some ⟨g, 0, none⟩) n cap) (xs.set i t) ∧ W1.grownBy (W1.setCell ⟨g, i, none⟩ v) (some g) := by
  obtain ⟨oki, c, hcl, hM, hcc, hoki, hH⟩ := Kd.S_lend h [] (i : Int) (by omega) (by omega)
  have hcl1 : c.length = 1 := hcl
  obtain ⟨u, rfl⟩ : ∃ u, c = [u] := by
    match c, hcl1 with
    | [u], _ => exact ⟨u, rfl⟩
  have hH1 := Kd.H_below (Kd.H_widen hH) hb
  obtain ⟨hc1, hf1⟩ := Kd.H_at hH1 (by omega) (by omega)
  have hc2 := hc1 0 u rfl
  have hf2 := hf1 0
  rw [Int.toNat_natCast, show i * kL.sz + 0 = i from by show i * 1 + 0 = i; omega] at hc2 hf2
  have hM1 : kL.M W1 base (fun k => ok k ∧ W.heap.size ≤ k) t ([u].take 0 ++ [v] ++ [u].drop (0 + [v].length)) := ⟨v, rfl, Kd.R_mono (Kd.R_lower (Kd.R_bound hv) hbase) (fun k hk => ⟨hfr k hk.2.1 hk.2.2.1, hk.2.1⟩)⟩
  have := Kd.S_seg0 (j := 0) (seg := [v]) hH1 (by omega) (by omega) (by show 0 + 1 ≤ 1; omega) hM1 (fun k hk => .inr hk)
  rw [Int.toNat_natCast, show i * kL.sz + 0 = i from by show i * 1 + 0 = i; omega] at this
  exact ⟨⟨u, hc2⟩, hf2, this⟩
theorem L_at {W : World} {base g n cap i k : Nat} {ok : Nat → Prop} {xs : List (List Int)} (h : Kd.S kL 23 W base ok (.slice (some ⟨g, 0, none⟩) n cap) xs) (hi : i < n) (hk : k < (xs.getD i []).length) :
    ∃ g2 cap2, W.cell? ⟨g, i, none⟩ = some (.slice (some ⟨g2, 0, none⟩) (xs.getD i []).length cap2) ∧ W.cell? ⟨g2, k, none⟩ = some (.int .i64 (rd (xs.getD i []) k)) ∧ W.frozen? ⟨g2, k, none⟩ = false ∧ base ≤ g2 ∧ g2 ≠ g ∧ ok g2 ∧
      ∀ x : Int, Kd.S kL 23 (W.setCell ⟨g2, k, none⟩ (.int .i64 x)) base ok (.slice (some ⟨g, 0, none⟩) n cap) (xs.set i ((xs.getD i []).set k x)) ∧ W.grownBy (W.setCell ⟨g2, k, none⟩ (.int .i64 x)) (some g2) := by
  obtain ⟨oki, c, hcl, ⟨v, rfl, hM⟩, hcc, hoki, hH⟩ := Kd.S_lend h [] (i : Int) (by omega) (by omega)
  rw [Int.toNat_natCast] at hM hcc
  obtain ⟨g2, cap2, rfl, hg2, _, _⟩ := Kd.R_form hM (by omega)
  have hcc0 := hcc 0 _ rfl
  rw [show i * kL.sz + 0 = i from by show i * 1 + 0 = i; omega] at hcc0
  obtain ⟨h1, h2⟩ := Kd.R_cell (0 : Int) hM (k : Int) (by omega) (by omega)
  rw [Int.toNat_natCast] at h1 h2
  have ho2 := hM.1 g2 (by simp [Value.ownBlock])
  refine ⟨g2, cap2, hcc0, h1, h2, hg2, (hoki g2 ho2).2, (hoki g2 ho2).1, fun x => ?_⟩
  obtain ⟨h3, h4⟩ := Kd.R_put hM (k : Int) x
  rw [Int.toNat_natCast] at h3 h4
  refine ⟨?_, h4⟩
  have := Kd.H_back (x' := (xs.getD i []).set k x) (okp := oki) (Kd.H_grown hH h4 (fun k_ e_ => by cases e_; exact ho2)) ⟨_, rfl, h3⟩ (fun _ hk => hk)
  rwa [Int.toNat_natCast] at this
def canonRow : List Int → List Int → List Int × List Int
  | ns, [] => (ns, [])
  | ns, c :: r => if 0 ≤ c then ((canonRow ns r).1, c :: (canonRow ns r).2)
    else ((canonRow (if c ∈ ns then ns else ns ++ [c]) r).1, (-1 - (((if c ∈ ns then ns else ns ++ [c]).idxOf c : Nat) : Int)) :: (canonRow (if c ∈ ns then ns else ns ++ [c]) r).2)
def canonAll : List Int → List (List Int) → List (List Int)
  | _, [] => []
  | ns, t :: r => (canonRow ns t).2 :: canonAll (canonRow ns t).1 r
def canonMap (ns : List Int) (c : Int) : Option Value := if c ∈ ns then some (.int .i64 ((ns.idxOf c : Nat) : Int)) else none
theorem canonMap_new {ns : List Int} {c : Int} (h : c ∉ ns) : (fun k' => if k' = c then some (.int .i64 ((ns.length : Nat) : Int)) else canonMap ns k') = canonMap (ns ++ [c]) := by
  funext k
  unfold canonMap
  by_cases hk : k = c
  · subst hk
    rw [if_pos rfl, if_pos (by simp), List.idxOf_append, if_neg h]
    simp
  · rw [if_neg hk]
    by_cases hm : k ∈ ns
    · rw [if_pos hm, if_pos (by simp [hm]), List.idxOf_append, if_pos hm]
    · rw [if_neg hm, if_neg (by simp [hm, hk])]
def canonOk (l : List (List Int)) : Prop := l.length ≤ 1048576 ∧ ∀ t, t ∈ l → t.length ≤ 17592186044416 ∧ ∀ c, c ∈ t → -1048577 ≤ c
open Classical in
noncomputable def subst_Canon.f (l0 : List (List Int)) : Option (List (List Int)) := if canonOk l0 then some (canonAll [] l0) else none
theorem drop_consL {t : List (List Int)} {a : Nat} (h : a < t.length) : t.drop a = rd_L3 t a :: t.drop (a + 1) := by
  rw [List.drop_eq_getElem_cons h]
  congr 1
  simp [rd_L3, h]
/-- Cell k of row i, in the middle of Canon's inner loop. -/
theorem canon_at {W : World} {base g n cap i : Nat} {ok : Nat → Prop} {xs : List (List Int)} {q dr : List Int} {c : Int} (hx : xs.length = n) (h : Kd.S kL 23 W base ok (.slice (some ⟨g, 0, none⟩) n cap) (xs.set i (q ++ c :: dr))) (hi : i < n) :
    ∃ g2 cap2, W.cell? ⟨g, i, none⟩ = some (.slice (some ⟨g2, 0, none⟩) (q ++ c :: dr).length cap2) ∧ W.cell? ⟨g2, q.length, none⟩ = some (.int .i64 c) ∧ W.frozen? ⟨g2, q.length, none⟩ = false ∧ base ≤ g2 ∧ ok g2 ∧
      ∀ x : Int, Kd.S kL 23 (W.setCell ⟨g2, q.length, none⟩ (.int .i64 x)) base ok (.slice (some ⟨g, 0, none⟩) n cap) (xs.set i (q ++ x :: dr)) ∧ W.grownBy (W.setCell ⟨g2, q.length, none⟩ (.int .i64 x)) (some g2) := by
  have hget : (xs.set i (q ++ c :: dr)).getD i [] = q ++ c :: dr := by
    rw [List.getD_eq_getElem?_getD, List.getElem?_set_self (by omega)]
    rfl
  obtain ⟨g2, cap2, h1, h2, h3, h4, h5, h6, h7⟩ := L_at h hi (k := q.length) (by rw [hget]; simp)
  rw [hget] at h1 h2 h7
  refine ⟨g2, cap2, h1, ?_, h3, h4, h6, fun x => ?_⟩
  · rw [h2]
    simp [rd]
  · have := h7 x
    rw [List.set_set] at this
    simpa using this
theorem zero_int (w : World) : (zeroValue 3).run Tryd.prog w = .ok (.int .i64 0) w := by kernel_rfl
/-- What holds of the numbers. -/
structure CNum (w : World) (B : Nat) (ns : List Int) (wx : World) : Prop where
  map : MapS wx B ns.length (canonMap ns)
  nd : ns.Nodup
  rng : ∀ c, c ∈ ns → -1048577 ≤ c ∧ c < 0
theorem CNum.step {w : World} {B : Nat} {ns : List Int} {wx w1 : World} (h : CNum w B ns wx) (hb : w1.heap[B]? = wx.heap[B]?) : CNum w B ns w1 := ⟨h.map.step hb, h.nd, h.rng⟩
theorem CNum.small {w : World} {B : Nat} {ns : List Int} {wx : World} (h : CNum w B ns wx) : ns.length ≤ 1048577 := by
  have hn : (ns.map (fun c => -1 - c)).Nodup := h.nd.map (f := fun c => -1 - c) (fun a b hab hc => hab (by omega))
  have := nodup_small 1048577 _ hn (fun x hx => by
    obtain ⟨c, hc, rfl⟩ := List.mem_map.1 hx
    have := h.rng c hc
    omega)
  simpa using this
theorem CNum.new {w : World} {B : Nat} {ns : List Int} {wx w1 : World} (h : CNum w B ns wx) {c : Int} (hc : c ∉ ns) (h0 : -1048577 ≤ c) (h1 : c < 0) (hm : MapS w1 B (ns.length + 1) (fun k' => if k' = c then some (.int .i64 ((ns.length : Nat) : Int)) else canonMap ns k')) : CNum w B (ns ++ [c]) w1 := by
  refine ⟨?_, ?_, fun x hx => ?_⟩
  · rw [canonMap_new hc] at hm
    rw [List.length_append]
    exact hm
  · rw [List.nodup_append]
    exact ⟨h.nd, by simp, fun a ha b hb e => hc (by simp at hb; rw [← hb, ← e]; exact ha)⟩
  · rcases List.mem_append.1 hx with hx | hx
    · exact h.rng x hx
    · simp at hx; omega
set_option maxHeartbeats 4000000 in
set_option maxRecDepth 100000 in
theorem subst_Canon.calls (A0 : Option Addr) (c0 : Nat) (l0 : List (List Int)) (r : List (List Int)) (w : World) (hr0 : Kd.C kL w A0 l0.length l0) (hc0 : l0.length ≤ c0) (h : subst_Canon.f l0 = some r) :
    Calls Tryd.prog 52 #[.slice A0 l0.length c0] w fun e w' => ∃ v0_ : Value, e = .returned v0_ ∧ Kd.S kL 23 w' w.heap.size (fun _ => True) v0_ r ∧ Below w.heap.size w w' := by
  have hg : canonOk l0 := by
    apply Classical.byContradiction
    intro hn
    rw [subst_Canon.f, if_neg hn] at h
    simp at h
  rw [subst_Canon.f, if_pos hg] at h
  have hE := Aside0.mk (Option.some.inj h)
  have HR0 := Aside0.mk hr0
  have hm1 := hr0.2.1
  have HG := Aside0.mk hg.2
  have hlen := hg.1
  clear h hr0 hg
  have hmm := @run_makeMap Tryd.prog
  go_enter Tryd.func52, Tryd.ntmps52
  go_wp2_with (first | (at_make; refine Kd.S_make kL (w0 := w) w.heap.size 23 rfl rfl 86 _ _ rfl (l0.length : Nat) rfl rfl Tryd.underlying86 (.slice none 0 0) 24 info23 rfl (by decide) (by omega) ([] : List Int) (ok := fun k => k ≠ w.heap.size) (okp := fun _ => False) ⟨_, rfl, Kd.R_nil _ _ _ _ _⟩ (fun _ h => h.elim) ?aF (by omega) ?aL (below_alloc (Below.refl _ _) _) ?aS ?_))
  case aF => show ¬ (w.heap.push _).size = _; rw [Array.size_push]; omega
  case aL => omega
  case aS => show _ ≤ (w.heap.push _).size; rw [Array.size_push]; omega
  intro v4 w1 ho1 hb1 hg1 bq hq1 hq2
  have N0 : CNum w w.heap.size [] w1 := ⟨(MapS.made w).step (hg1.block _ (by show _ < (w.heap.push _).size; rw [Array.size_push]; omega) (by simp)), List.nodup_nil, fun c hc => by simp at hc⟩
  have HO1 := Aside0.mk ho1
  have HB1 := Aside0.mk hb1
  have HN0 := Aside0.mk N0
  clear ho1 hb1 hg1 hq1 hq2 N0
  go_wp2_with fail
  go_loopg [17] (l0.length + 1) (fun kq v17 wx => ∃ (i : Nat) (ns : List Int) (dn : List (List Int)), v17 = .int .i64 i ∧ kq + i = l0.length + 1 ∧ i ≤ l0.length ∧ dn.length = i ∧ canonAll [] l0 = dn ++ canonAll ns (l0.drop i) ∧ CNum w w.heap.size ns wx ∧ Kd.S kL 23 wx w.heap.size (fun k => ¬ k = w.heap.size) v4 (dn ++ List.replicate (l0.length - i) []) ∧ Below w.heap.size w wx)
  case atStart => exact ⟨0, [], [], rfl, by omega, by omega, rfl, rfl, HN0.out, HO1.out, HB1.out⟩
  case round =>
    obtain ⟨i, ns, dn, rfl, hkq, hile, hdn, hall, hN, hO, hB⟩ := hrel
    clear HN0 HO1 HB1
    by_cases hi : i < l0.length
    · obtain ⟨k1, rfl⟩ : ∃ k1, gk = k1 + 1 := ⟨gk - 1, by omega⟩
      have pa : ((0 : Int) ≤ (i : Int)) = True := eq_true (by omega)
      have qa : ((i : Int) < (l0.length : Int)) = True := eq_true (by omega)
      obtain ⟨ad, At, ct, e, hx, hct, hrt⟩ := at_L3 HR0.out (i : Int) (by omega) (by omega)
      subst e
      rw [Int.toNat_natCast] at hx
      replace hx := pw_cell_below hB hx
      have hget : l0.drop i = rd_L3 l0 i :: l0.drop (i + 1) := drop_consL hi
      have hmem : rd_L3 l0 i ∈ l0 := by
        have : rd_L3 l0 i ∈ l0.drop i := by rw [hget]; exact List.mem_cons_self
        exact List.mem_of_mem_drop this
      rw [hget, canonAll] at hall
      obtain ⟨htl, hcs⟩ := HG.out _ hmem
      obtain ⟨g, cap, hv4, hgb, hgl, _⟩ := Kd.S_form hO (by simp; omega)
      have hlen2 : (dn ++ List.replicate (l0.length - i) ([] : List Int)).length = l0.length := by simp; omega
      rw [hlen2] at hv4
      subst hv4
      have HALL := Aside0.mk hall
      have HRT := Aside0.mk hrt
      have HN := Aside0.mk hN
      have HO := Aside0.mk hO
      have HB := Aside0.mk hB
      have HCS := Aside0.mk hcs
      clear hall hN hO hB hcs hget hmem hlen2 hrt
      generalize rd_L3 l0 (i : Int) = t at *
      have cC := Aside0.mk (slices_Clone_int_int.calls At ct t t wr (Kd.C_below HRT.out HB.out) hct (by rw [slices_Clone_int_int.f, if_pos htl]))
      go_wp2_with fail
      refine cC.out.mono ?_
      rintro e w2 ⟨vc, rfl, hvc, hb2⟩
      obtain ⟨Ac, cc, hvs⟩ := Kd.R_slice hvc
      subst hvs
      obtain ⟨hcell, hfroz, hO2, hg2⟩ := L_put HO.out hi hb2 HB.out.size (fun k_ h1_ h2_ => by have := HB.out.size; have := HN.out.map.I.lt; omega) hvc
      have HO3 := Aside0.mk hO2
      have HN3 := Aside0.mk (HN.out.step (w1 := w2.setCell ⟨g, i, none⟩ (.slice Ac t.length cc)) ((hg2.block w.heap.size (by have := HN.out.map.I.lt; have := hb2.size; omega) (fun e_ => by injection e_ with e_; exact ((Kd.S_R HO.out).1 g (by simp [Value.ownBlock])) e_.symm)).trans (hb2.block _ HN.out.map.I.lt)))
      have HB3 := Aside0.mk ((below_step HB.out hb2).grown hg2 (below_step HB.out hb2).size (fun k_ hk_ => by cases hk_; exact hgb))
      obtain ⟨u0, hcell⟩ := hcell
      have pc : ((i : Int) < (l0.length : Int)) = True := eq_true (by omega)
      have hgi : (⟨g, 0, none⟩ : Addr).add i = ⟨g, i, none⟩ := addr_add g 0 i |>.trans (by rw [Nat.zero_add])
      clear hvc hb2 hO2 hg2 HN HO HB cC
      go_wp2_with fail
      go_loopg [29] (t.length + 1) (fun kq2 v29 wx => ∃ (k : Nat) (ns' q : List Int), v29 = .int .i64 k ∧ kq2 + k = t.length + 1 ∧ k ≤ t.length ∧ q.length = k ∧ canonRow ns t = ((canonRow ns' (t.drop k)).1, q ++ (canonRow ns' (t.drop k)).2) ∧ CNum w w.heap.size ns' wx ∧ Kd.S kL 23 wx w.heap.size (fun k => ¬ k = w.heap.size) (.slice (some ⟨g, 0, none⟩) l0.length cap) ((dn ++ List.replicate (l0.length - i) []).set i (q ++ t.drop k)) ∧ Below w.heap.size w wx)
      case atStart => exact ⟨0, ns, [], rfl, by omega, by omega, rfl, rfl, HN3.out, HO3.out, HB3.out⟩
      case round =>
        obtain ⟨k, ns', q, rfl, hkq2, hkle, hql, hrow, hN, hO, hB⟩ := hrel
        clear HN3 HO3 HB3
        by_cases hk : k < t.length
        · obtain ⟨k2, rfl⟩ : ∃ k2, gk = k2 + 1 := ⟨gk - 1, by omega⟩
          obtain ⟨adt, e, hxc⟩ := at_L_int (Kd.C_below HRT.out hB) (k : Int) (by omega) (by omega)
          subst e
          rw [Int.toNat_natCast] at hxc
          have pk : ((0 : Int) ≤ (k : Int)) = True := eq_true (by omega)
          have qk : ((k : Int) < (t.length : Int)) = True := eq_true (by omega)
          have hdr := drop_cons hk
          have hc0 : -1048577 ≤ rd t k := HCS.out _ (by have : rd t k ∈ t.drop k := by rw [hdr]; exact List.mem_cons_self
                                                        exact List.mem_of_mem_drop this)
          rw [hdr] at hrow hO
          have HN := Aside0.mk hN
          have HO := Aside0.mk hO
          have HB := Aside0.mk hB
          clear hN hO hB hdr
          generalize hDR : t.drop (k + 1) = dr at *
          generalize rd t (k : Int) = c at *
          by_cases hc : 0 ≤ c
          · have hcb : (decide (c ≥ 0)) = true := decide_eq_true hc
            have hrow2 := Aside0.mk hrow
            clear hrow
            go_wp2_with fail
            go_roundg k2
            case measure => omega
            case rel =>
              refine ⟨k + 1, ns', q ++ [c], by simp, by go_num, by omega, by simp [hql], ?_, HN.out, ?_, HB.out⟩
              · rw [hDR, hrow2.out, canonRow, if_pos hc]
                simp
              · rw [hDR, List.append_assoc]
                exact HO.out
          · have hcb : (decide (c ≥ 0)) = false := decide_eq_false hc
            have hwf : (Lit.int .i64 c).wf = true := WalkArith.wf_i64 (by omega)
            have hzr := fun W => zero_int W
            have hlen2 : (dn ++ List.replicate (l0.length - i) ([] : List Int)).length = l0.length := by simp; omega
            have hsm := HN.out.small
            by_cases hm : c ∈ ns'
            · have hcm : canonMap ns' c = some (.int .i64 ((ns'.idxOf c : Nat) : Int)) := if_pos hm
              obtain ⟨g2, cap2, h1, h2, h3, h4, h5, h6⟩ := canon_at hlen2 HO.out hi
              have hrow2 := Aside0.mk hrow
              have hsl : (q ++ c :: dr).length = t.length := by rw [← hDR]; simp; omega
              rw [hsl] at h1
              rw [hql] at h2 h3 h6
              have hix : ns'.idxOf c < ns'.length := List.idxOf_lt_length_of_mem hm
              have hlk := HN.out.map.I.look1 Tryd.underlying64 (hzr _) hwf hcm
              have hlk2 := (HN.out.map.step (w1 := wr.drew) rfl).I.look1 Tryd.underlying64 (hzr _) hwf hcm
              have H6 := Aside0.mk h6
              have HM := Aside0.mk hm
              clear h6 hrow hm
              have a1 : (⟨g, 0, none⟩ : Addr).add i = ⟨g, i, none⟩ := hgi
              have a2 : (⟨g2, 0, none⟩ : Addr).add k = ⟨g2, k, none⟩ := addr_add g2 0 k |>.trans (by rw [Nat.zero_add])
              go_wp2_with (first | (at_lookup; refine wpList_lookup_hit rfl _ _ 64 3 rfl Tryd.underlying64 (hzr _) w.heap.size ns'.length (canonMap ns') rfl HN.out.map.I c rfl hwf _ hcm ?_))
              have hwr : IntKind.i64.wrap (-1 - ((ns'.idxOf c : Nat) : Int)) = -1 - ((ns'.idxOf c : Nat) : Int) := by rw [IntKind.wrap_i64]; omega
              have HREL : ∃ (k' : Nat) (ns2 q' : List Int), k' = k + 1 ∧ q'.length = k' ∧ canonRow ns t = ((canonRow ns2 (t.drop k')).1, q' ++ (canonRow ns2 (t.drop k')).2) ∧ CNum w w.heap.size ns2 (wr.setCell ⟨g2, k, none⟩ (.int .i64 (-1 - ((ns'.idxOf c : Nat) : Int)))).drew ∧ Kd.S kL 23 (wr.setCell ⟨g2, k, none⟩ (.int .i64 (-1 - ((ns'.idxOf c : Nat) : Int)))).drew w.heap.size (fun k => ¬ k = w.heap.size) (.slice (some ⟨g, 0, none⟩) l0.length cap) ((dn ++ List.replicate (l0.length - i) []).set i (q' ++ t.drop k')) ∧ Below w.heap.size w (wr.setCell ⟨g2, k, none⟩ (.int .i64 (-1 - ((ns'.idxOf c : Nat) : Int)))).drew := by
                obtain ⟨h7, h8⟩ := H6.out (-1 - ((ns'.idxOf c : Nat) : Int))
                refine ⟨k + 1, ns', q ++ [-1 - ((ns'.idxOf c : Nat) : Int)], rfl, by simp [hql], ?_, HN.out.step (h8.block _ HN.out.map.I.lt (fun e_ => h5 (by injection e_ with e_; exact e_.symm))), ?_, below_drew (HB.out.grown h8 HB.out.size (fun k_ hk_ => by cases hk_; exact h4))⟩
                · rw [hDR, hrow2.out, canonRow, if_neg (by omega), if_pos HM.out]
                  simp
                · rw [hDR, List.append_assoc]
                  exact Kd.S_drew h7
              have HREL := Aside0.mk HREL
              clear HN HO HB H6 hrow2 hsl
              go_region_with (fail)
              all_goals (
                go_wp2_with fail
                go_roundg k2
                case measure => omega
                case rel =>
                  obtain ⟨k', ns2, q', rfl, r1, r2, r3, r4, r5⟩ := HREL.out
                  exact ⟨k + 1, ns2, q', by simp, by go_num, by omega, r1, r2, r3, r4, r5⟩)
            · have hcm : canonMap ns' c = none := if_neg hm
              have hrow2 := Aside0.mk hrow
              have hsl : (q ++ c :: dr).length = t.length := by rw [← hDR]; simp; omega
              have HM := Aside0.mk hm
              have hBlt := HN.out.map.I.lt
              clear hrow hm
              go_wp2_with (first | (at_lookup; refine wpList_lookup_miss rfl _ _ 64 3 rfl Tryd.underlying64 (hzr _) w.heap.size ns'.length (canonMap ns') rfl HN.out.map.I c rfl hwf hcm ?_) | (at_len; refine wpList_len_mapS rfl _ 64 3 rfl Tryd.underlying64 w.heap.size ns'.length (canonMap ns') rfl HN.out.map ?_) | (at_mapUpdate; refine wpList_update_mapS rfl _ _ _ 64 3 rfl Tryd.underlying64 w.heap.size ns'.length (canonMap ns') rfl HN.out.map (by unfold maxLen; omega) c (.int .i64 (ns'.length : Nat)) rfl rfl hwf hcm ?_))
              intro w5 hM5 hg5
              have HN5 := Aside0.mk (HN.out.new HM.out hc0 (by omega) hM5)
              have HO5 := Aside0.mk (Kd.S_grown HO.out hg5 (fun k_ hk_ e_ => hk_ (by injection e_)))
              have HB5 := Aside0.mk (HB.out.grown hg5 HB.out.size (fun k_ hk_ => by cases hk_; exact Nat.le_refl _))
              obtain ⟨g2, cap2, h1, h2, h3, h4, h5, h6⟩ := canon_at hlen2 HO5.out hi
              rw [hsl] at h1
              rw [hql] at h2 h3 h6
              have hix : (ns' ++ [c]).idxOf c < (ns' ++ [c]).length := List.idxOf_lt_length_of_mem (by simp)
              have hil : (ns' ++ [c]).length = ns'.length + 1 := by simp
              have hcm2 : canonMap (ns' ++ [c]) c = some (.int .i64 (((ns' ++ [c]).idxOf c : Nat) : Int)) := if_pos (by simp)
              have hlk := HN5.out.map.I.look1 Tryd.underlying64 (hzr _) hwf hcm2
              have hlk2 := (HN5.out.map.step (w1 := w5.drew) rfl).I.look1 Tryd.underlying64 (hzr _) hwf hcm2
              have H6 := Aside0.mk h6
              clear h6 hM5 hg5 HN HO HB
              have a1 : (⟨g, 0, none⟩ : Addr).add i = ⟨g, i, none⟩ := hgi
              have a2 : (⟨g2, 0, none⟩ : Addr).add k = ⟨g2, k, none⟩ := addr_add g2 0 k |>.trans (by rw [Nat.zero_add])
              have hwr : IntKind.i64.wrap (-1 - (((ns' ++ [c]).idxOf c : Nat) : Int)) = -1 - (((ns' ++ [c]).idxOf c : Nat) : Int) := by rw [IntKind.wrap_i64]; omega
              have HREL : ∃ (k' : Nat) (ns2 q' : List Int), k' = k + 1 ∧ q'.length = k' ∧ canonRow ns t = ((canonRow ns2 (t.drop k')).1, q' ++ (canonRow ns2 (t.drop k')).2) ∧ CNum w w.heap.size ns2 (w5.setCell ⟨g2, k, none⟩ (.int .i64 (-1 - (((ns' ++ [c]).idxOf c : Nat) : Int)))).drew ∧ Kd.S kL 23 (w5.setCell ⟨g2, k, none⟩ (.int .i64 (-1 - (((ns' ++ [c]).idxOf c : Nat) : Int)))).drew w.heap.size (fun k => ¬ k = w.heap.size) (.slice (some ⟨g, 0, none⟩) l0.length cap) ((dn ++ List.replicate (l0.length - i) []).set i (q' ++ t.drop k')) ∧ Below w.heap.size w (w5.setCell ⟨g2, k, none⟩ (.int .i64 (-1 - (((ns' ++ [c]).idxOf c : Nat) : Int)))).drew := by
                obtain ⟨h7, h8⟩ := H6.out (-1 - (((ns' ++ [c]).idxOf c : Nat) : Int))
                refine ⟨k + 1, ns' ++ [c], q ++ [-1 - (((ns' ++ [c]).idxOf c : Nat) : Int)], rfl, by simp [hql], ?_, HN5.out.step (h8.block _ HN5.out.map.I.lt (fun e_ => h5 (by injection e_ with e_; exact e_.symm))), ?_, below_drew (HB5.out.grown h8 HB5.out.size (fun k_ hk_ => by cases hk_; exact h4))⟩
                · rw [hDR, hrow2.out, canonRow, if_neg (by omega), if_neg HM.out]
                  simp
                · rw [hDR, List.append_assoc]
                  exact Kd.S_drew h7
              have HREL := Aside0.mk HREL
              clear HN5 HO5 HB5 H6 hrow2 hsl hil
              generalize (ns' ++ [c]).idxOf c = ix at *
              go_wp2_with (fail)
              go_region_with (fail)
              all_goals (
                go_wp2_with fail
                go_roundg k2
                case measure => omega
                case rel =>
                  obtain ⟨k', ns2, q', rfl, r1, r2, r3, r4, r5⟩ := HREL.out
                  exact ⟨k + 1, ns2, q', by simp, by go_num, by omega, r1, r2, r3, r4, r5⟩)
        · obtain rfl : k = t.length := by omega
          rw [List.drop_length, canonRow] at hrow
          rw [List.drop_length, List.append_nil] at hO
          have hN' := Aside0.mk hN
          have hO' := Aside0.mk hO
          have hB' := Aside0.mk hB
          have hrow' := Aside0.mk hrow
          clear hN hO hB hrow
          go_wp2_with fail
          go_roundg k1
          case measure => omega
          case rel =>
            have hrow := hrow'.out
            rw [List.append_nil] at hrow
            have hset : (dn ++ List.replicate (l0.length - i) ([] : List Int)).set i q = (dn ++ [q]) ++ List.replicate (l0.length - (i + 1)) [] := by
              rw [show l0.length - i = (l0.length - (i + 1)) + 1 by omega, List.replicate_succ, ← hdn, List.set_append_right _ _ (Nat.le_refl _), Nat.sub_self, List.set_cons_zero, List.append_assoc]
              rfl
            have hO := hO'.out
            rw [hset] at hO
            exact ⟨i + 1, ns', dn ++ [q], by go_num, by omega, by omega, by simp [hdn], by rw [HALL.out, hrow]; simp, hN'.out, hO, hB'.out⟩
    · obtain rfl : i = l0.length := by omega
      rw [List.drop_length, canonAll, List.append_nil] at hall
      rw [Nat.sub_self, List.replicate_zero, List.append_nil] at hO
      have hO' := Aside0.mk hO
      have hB' := Aside0.mk hB
      have hall' := Aside0.mk hall
      clear hO hB hN hall
      go_wp2_with fail
      go_ret
      refine ⟨_, rfl, ?_, hB'.out⟩
      rw [← hE.out, hall'.out]
      exact Kd.S_mono hO'.out (fun _ _ => trivial)
end Go.Proofs.YtjckddaaeiffpaaDoor.Z
