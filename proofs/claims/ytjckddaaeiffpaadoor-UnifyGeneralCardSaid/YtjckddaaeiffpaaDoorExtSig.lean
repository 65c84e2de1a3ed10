/- Signatures: (term.CheckSig). -/
import Derived.Test.YtjckddaaeiffpaaDoorZ0
import Derived.Test.YtjckddaaeiffpaaDoorExtName
import Derived.Outline
import Derived.Test.YtjckddaaeiffpaaDoorShelf
namespace Go.Proofs.YtjckddaaeiffpaaDoor.Z
open Go.RowKit Go.Proofs.YtjckddaaeiffpaaDoorW.PrintWords Go.Proofs.YtjckddaaeiffpaaDoorW.PrintLast Go.Proofs.YtjckddaaeiffpaaDoorW.PrintMore
attribute [local go_sem] max2_int min2_int max_two min_two max_three min_three max_four min_four   -- for this text's walks alone
set_option linter.unusedVariables false
set_option linter.unusedSimpArgs false

/-- A marked name. -/
def markOk (s : ByteArray) : Bool := decide (0 < s.size) && decide (bt s ((s.size : Int) - 1) = 35) && nameOk (s.extract 0 (s.size - 1))
theorem bt_last (s : ByteArray) (h : 0 < s.size) : bt s ((s.size : Int) - 1) = ((s[s.size - 1]'(by omega)).toNat : Int) := by
  have e : ((s.size : Int) - 1).toNat = s.size - 1 := by omega
  unfold bt
  rw [dif_pos (by omega)]
  simp only [e]
def sigStep (sig : List S85) (i : Nat) : Int :=
  if !(nameOk (rd_T85 sig i).f0 || markOk (rd_T85 sig i).f0) then 34
  else if (rd_T85 sig i).f1 < 0 ∨ (rd_T85 sig i).f1 > 8 then 35
  else if (sig.take i).any (fun g => g.f0.toList == (rd_T85 sig i).f0.toList) then 36 else 0
theorem sigStep_is (sig : List S85) (i : Nat) (g : S85) (hg : rd_T85 sig (i : Int) = g) : sigStep sig i =
    if !(nameOk g.f0 || markOk g.f0) then 34 else if g.f1 < 0 ∨ g.f1 > 8 then 35 else if (sig.take i).any (fun x => x.f0.toList == g.f0.toList) then 36 else 0 := by
  subst hg
  rfl
def sigFrom (sig : List S85) : Nat → Nat → Int
  | 0, _ => 0
  | k + 1, i => if i < sig.length then (if sigStep sig i = 0 then sigFrom sig k (i + 1) else sigStep sig i) else 0
def sigErr (sig : List S85) : Int := if 128 < sig.length then 37 else sigFrom sig 129 0
/-- No name is too long for any machine. -/
def sigFine (sig : List S85) : Prop := ∀ x, x ∈ sig → x.f0.size ≤ 140737488351232
theorem sigFine.at_ {sig : List S85} (h : sigFine sig) (i : Int) : (rd_T85 sig i).f0.size ≤ 140737488351232 := by
  unfold rd_T85
  by_cases hi : i.toNat < sig.length
  · rw [List.getD_eq_getElem?_getD, List.getElem?_eq_getElem hi]
    exact h _ (List.getElem_mem hi)
  · rw [List.getD_eq_getElem?_getD, List.getElem?_eq_none (by omega)]
    show (0 : Nat) ≤ _
    omega
theorem any_take_succ (l : List S85) (j : Nat) (h : j < l.length) (p : S85 → Bool) : (l.take (j + 1)).any p = ((l.take j).any p || p (rd_T85 l (j : Int))) := by
  rw [List.take_succ_eq_append_getElem h, List.any_append]
  congr 1
  unfold rd_T85
  rw [Int.toNat_natCast, List.getD_eq_getElem?_getD, List.getElem?_eq_getElem h]
  simp
theorem any_take_mono (l : List S85) {j i : Nat} (h : j ≤ i) (p : S85 → Bool) (ha : (l.take j).any p = true) : (l.take i).any p = true := by
  rw [List.any_eq_true] at ha ⊢
  obtain ⟨x, hx, hp⟩ := ha
  exact ⟨x, (List.take_subset_take_left l h) hx, hp⟩
set_option maxHeartbeats 4000000 in
set_option maxRecDepth 100000 in
theorem twice_calls (B : Nat) (w w0 : World) (g : S85) (n : ByteArray) (a : Int) (hb : Below w0.heap.size w0 w) (hB : B < w0.heap.size) (hc : w0.cell? ⟨B, 0, none⟩ = some (.string n)) :
    Calls Tryd.prog 90 #[.agg #[.string g.f0, .int .i64 g.f1], .pointer (some ⟨B, 0, none⟩)] w fun e w' => e = .returned (.bool (g.f0.toList == n.toList)) ∧ Below w.heap.size w w' := by
  have hc2 := (hb.cell (p := ⟨B, 0, none⟩) hB).trans hc
  have hu85 := Tryd.underlying85
  have hB2 := Nat.lt_of_lt_of_le hB hb.size
  clear hc
  go_enter Tryd.func90, Tryd.ntmps90
  go_wp2
  go_ret
  exact ⟨by rfl, by repeat (first | exact Below.refl _ _ | apply below_alloc)⟩
set_option maxHeartbeats 4000000 in
set_option maxRecDepth 100000 in
/-- slices.IndexFunc at the closure of CheckSig. -/
theorem index_calls (w : World) (A : Option Addr) (l : List S85) (i c B : Nat) (n : ByteArray) (hr : Kd.C k85 w A l.length l) (hi : i ≤ l.length) (hB : B < w.heap.size) (hc : w.cell? ⟨B, 0, none⟩ = some (.string n)) :
    Calls Tryd.prog 99 #[.slice A i c, .func (.func 90) #[] #[.pointer (some ⟨B, 0, none⟩)]] w fun e w' => (∃ r : Int, e = .returned (.int .i64 r) ∧ decide (0 ≤ r) = ((l.take i).any (fun g => g.f0.toList == n.toList))) ∧ Below w.heap.size w w' := by
  have eg : ∀ args w, (callFunc 90 args).run Tryd.prog w = .ok (.enter 90 args) w := enters_of Tryd.func90 (by kernel_rfl) rfl
  have hu85 := Tryd.underlying85
  have hm := hr.2.1
  have HR := Aside0.mk hr
  have HC := Aside0.mk hc
  clear hr hc
  go_enter Tryd.func99, Tryd.ntmps99
  go_wp2
  go_loopg [8] (i + 1) (fun kq v8 wx => ∃ j : Nat, v8 = .int .i64 j ∧ Aside0 (((l.take j).any (fun g => g.f0.toList == n.toList)) = false) ∧ Below w.heap.size w wx ∧ i < j + kq ∧ j ≤ i)
  case atStart => exact ⟨0, rfl, ⟨rfl⟩, Below.refl _ _, by omega, by omega⟩
  case round =>
    obtain ⟨j, rfl, EA, hbx, hlt, hle⟩ := hrel
    cases gk with
    | zero => omega
    | succ k1 =>
      by_cases hj : j < i
      · obtain ⟨ad, e, hx0, hx1⟩ := at_T85 (Kd.C_below HR.out hbx) (j : Int) (by omega) (by omega)
        subst e
        have hT := any_take_succ l j (by omega) (fun g => g.f0.toList == n.toList)
        rw [EA.out, Bool.false_or] at hT
        have ET := Aside0.mk hT
        have ETI := Aside0.mk (fun h => any_take_mono l (show j + 1 ≤ i by omega) (fun g => g.f0.toList == n.toList) (hT.trans h))
        have cL := twice_calls B wr w (rd_T85 l j) n 0 hbx hB HC.out
        clear EA hT
        generalize ((rd_T85 l j).f0.toList == n.toList) = R at cL ET ETI
        rw [Int.toNat_natCast] at hx0 hx1
        generalize rd_T85 l j = g at *
        cases R with
        | true =>
          go_wp2_with (first | (go_at_call 90; refine cL.mono ?_; rintro e w2 ⟨rfl, hb2⟩))
          go_ret
          exact ⟨⟨_, rfl, by rw [ETI.out trivial]; simp⟩, below_step hbx hb2⟩
        | false =>
          go_wp2_with (first | (go_at_call 90; refine cL.mono ?_; rintro e w2 ⟨rfl, hb2⟩))
          go_roundg k1
          case measure => omega
          case rel => exact ⟨j + 1, by go_num, ET, below_step hbx hb2, by omega, by omega⟩
      · obtain rfl : j = i := by omega
        have E2 := EA
        clear EA
        go_wp2
        go_ret
        exact ⟨⟨-1, rfl, by rw [E2.out]; rfl⟩, hbx⟩
set_option maxHeartbeats 4000000 in
set_option maxRecDepth 100000 in
/-- slices.ContainsFunc at the closure of CheckSig. -/
theorem contains_calls (w : World) (A : Option Addr) (l : List S85) (i c B : Nat) (n : ByteArray) (hr : Kd.C k85 w A l.length l) (hi : i ≤ l.length) (hB : B < w.heap.size) (hc : w.cell? ⟨B, 0, none⟩ = some (.string n)) :
    Calls Tryd.prog 89 #[.slice A i c, .func (.func 90) #[] #[.pointer (some ⟨B, 0, none⟩)]] w fun e w' => e = .returned (.bool ((l.take i).any (fun g => g.f0.toList == n.toList))) ∧ Below w.heap.size w w' := by
  have cI := index_calls w A l i c B n hr hi hB hc
  clear hr hi hB hc
  generalize ((l.take i).any (fun g => g.f0.toList == n.toList)) = R at cI
  go_enter Tryd.func89, Tryd.ntmps89
  go_wp2_with (first | (go_at_call 99; refine cI.mono ?_; rintro e w2 ⟨⟨r, rfl, HX⟩, hb2⟩; replace HX := Aside0.mk HX))
  go_ret
  exact ⟨by rw [← HX.out]; rfl, hb2⟩
theorem sig_stop {l : List S85} {i : Nat} {v X : Int} (ES : sigErr l = if sigStep l i = 0 then X else sigStep l i) (h : sigStep l i = v) (hv : v ≠ 0) : sigErr l = v := by
  rw [ES, h, if_neg hv]
theorem sig_go {l : List S85} {i : Nat} {X : Int} (ES : sigErr l = if sigStep l i = 0 then X else sigStep l i) (h : sigStep l i = 0) : sigErr l = X := by
  rw [ES, if_pos h]
theorem two_cells {w w2 : World} {a b : Value} {T : TypeId} (hb : Below (w.alloc (.cells #[a, b] T)).heap.size (w.alloc (.cells #[a, b] T)) w2) :
    w2.cell? ⟨w.heap.size, 0, none⟩ = some a ∧ w2.cell? ⟨w.heap.size, 1, none⟩ = some b ∧ w.heap.size < w2.heap.size ∧ Below w.heap.size w w2 := by
  have hs := hb.size
  have hlt : w.heap.size < (w.alloc (.cells #[a, b] T)).heap.size := by simp
  refine ⟨?_, ?_, Nat.lt_of_lt_of_le hlt hs, (below_alloc (Below.refl _ _) _).trans (hb.mono (Nat.le_of_lt hlt))⟩
  · rw [hb.cell (p := ⟨w.heap.size, 0, none⟩) hlt]; simp
  · rw [hb.cell (p := ⟨w.heap.size, 1, none⟩) hlt]; simp
set_option maxHeartbeats 4000000 in
set_option maxRecDepth 100000 in
/-- (term.CheckSig): what is wrong with a signature. -/
theorem checkSig_calls (A0 : Option Addr) (c0 : Nat) (l0 : List S85) (w : World) (hr0 : Kd.C k85 w A0 l0.length l0) (hc0 : l0.length ≤ c0) (hF : sigFine l0) (hT : Tabs w) :
    Calls Tryd.prog 73 #[.slice A0 l0.length c0] w fun e w' => e = .returned (.int .i64 (sigErr l0)) ∧ Below w.heap.size w w' := by
  have hu85 := Tryd.underlying85
  have HR0 := Aside0.mk hr0
  have HC0 := Aside0.mk hc0
  have HT := Aside0.mk hT
  have HF := Aside0.mk hF
  have hm := hr0.2.1
  clear hr0 hc0 hT hF
  by_cases h128 : 128 < l0.length
  · have E := Aside0.mk (show sigErr l0 = 37 by rw [sigErr, if_pos h128])
    go_enter Tryd.func73, Tryd.ntmps73
    go_wp2
    go_ret
    exact ⟨by rw [E.out]; rfl, Below.refl _ _⟩
  · have E := Aside0.mk (show sigErr l0 = sigFrom l0 129 0 by rw [sigErr, if_neg h128])
    go_enter Tryd.func73, Tryd.ntmps73
    go_wp2
    go_loopg [11] 129 (fun kq v11 wx => ∃ i : Nat, v11 = .int .i64 i ∧ Aside0 (sigErr l0 = sigFrom l0 kq i) ∧ Below w.heap.size w wx ∧ l0.length < i + kq ∧ i ≤ l0.length)
    case atStart => exact ⟨0, rfl, E, Below.refl _ _, by omega, by omega⟩
    case round =>
      obtain ⟨i, rfl, EA, hbx, hlt, hle⟩ := hrel
      cases gk with
      | zero => omega
      | succ k1 =>
        by_cases hi : i < l0.length
        · obtain ⟨ad, e, hx0, hx1⟩ := at_T85 (Kd.C_below HR0.out hbx) (i : Int) (by omega) (by omega)
          subst e
          have hF := HF.out.at_ (i : Int)
          have HTr := Aside0.mk (HT.out.below hbx)
          have ES := Aside0.mk (EA.out.trans (show _ = (if sigStep l0 i = 0 then sigFrom l0 k1 (i + 1) else sigStep l0 i) by rw [sigFrom, if_pos hi]))
          clear EA
          rw [Int.toNat_natCast] at hx0 hx1
          obtain ⟨g, hg⟩ : ∃ g, rd_T85 l0 (i : Int) = g := ⟨_, rfl⟩
          rw [hg] at hx0 hx1 hF
          have EN := Aside0.mk (sigStep_is l0 i g hg)
          have c1 := named_calls g.f0
          clear hg
          cases h1 : nameOk g.f0 with
          | false =>
            rw [h1] at EN c1
            clear h1
            simp only [Bool.false_or] at EN
            by_cases hz : g.f0.size = 0
            · have hz2 : ((g.f0.size : Int) == 0) = true := by simp [hz]
              have E34 := Aside0.mk (sig_stop (v := 34) ES.out (by rw [EN.out]; simp [markOk, hz]) (by decide))
              clear EN ES hz
              go_wp2_with fail
              refine (c1 _ (HTr.out.below (by repeat (first | exact Below.refl _ _ | apply below_alloc)))).mono ?_
              rintro e w2 ⟨rfl, hb2⟩
              obtain ⟨q0, q1, hz2, hbw2⟩ := two_cells hb2
              clear hb2
              go_wp2_with fail
              go_ret
              exact ⟨by rw [E34.out]; rfl, below_step hbx hbw2⟩
            · have hz2 : ((g.f0.size : Int) == 0) = false := by rw [beq_eq_false_iff_ne]; omega
              have hpos : 0 < g.f0.size := by omega
              have hlast := bt_last g.f0 hpos
              by_cases h35 : ((g.f0[g.f0.size - 1]'(by omega)).toNat : Int) = 35
              · have c2 := named_calls (g.f0.extract 0 (g.f0.size - 1))
                have h35b : (((g.f0[g.f0.size - 1]'(by omega)).toNat : Int) != 35) = false := by rw [h35]; rfl
                have hmk : markOk g.f0 = nameOk (g.f0.extract 0 (g.f0.size - 1)) := by simp [markOk, hpos, hlast, h35]
                rw [hmk] at EN
                clear hlast h35 hmk
                generalize hN2 : nameOk (g.f0.extract 0 (g.f0.size - 1)) = N2 at EN c2
                clear hN2
                cases N2 with
                | false =>
                  have E34 := Aside0.mk (sig_stop (v := 34) ES.out (by rw [EN.out]; rfl) (by decide))
                  clear EN ES hz
                  go_wp2_with fail
                  refine (c1 _ (HTr.out.below (by repeat (first | exact Below.refl _ _ | apply below_alloc)))).mono ?_
                  rintro e w2 ⟨rfl, hb2⟩
                  obtain ⟨q0, q1, hz2, hbw2⟩ := two_cells hb2
                  clear hb2
                  go_wp2_with fail
                  refine (c2 _ (HTr.out.below hbw2)).mono ?_
                  rintro e w3 ⟨rfl, hb3⟩
                  go_wp2_with fail
                  go_ret
                  exact ⟨by rw [E34.out]; rfl, below_step hbx (below_step hbw2 hb3)⟩
                | true =>
                  simp only [Bool.not_true, Bool.false_eq_true, if_false] at EN
                  clear hz
                  go_wp2_with fail
                  refine (c1 _ (HTr.out.below (by repeat (first | exact Below.refl _ _ | apply below_alloc)))).mono ?_
                  rintro e w2 ⟨rfl, hb2⟩
                  obtain ⟨q0, q1, hz2, hbw2⟩ := two_cells hb2
                  clear hb2
                  go_wp2_with fail
                  refine (c2 _ (HTr.out.below hbw2)).mono ?_
                  rintro e w3 ⟨rfl, hb3⟩
                  have q0' := (hb3.cell (p := ⟨wr.heap.size, 0, none⟩) hz2).trans q0
                  have q1' := (hb3.cell (p := ⟨wr.heap.size, 1, none⟩) hz2).trans q1
                  have hz3 := Nat.lt_of_lt_of_le hz2 hb3.size
                  have hbw3 := below_step hbw2 hb3
                  clear q0 q1 hz2 hbw2 hb3 c1 c2
                  by_cases ha : g.f1 < 0
                  · have E35 := Aside0.mk (sig_stop (v := 35) ES.out (by rw [EN.out, if_pos (.inl ha)]) (by decide))
                    clear EN ES
                    go_wp2_with fail
                    go_ret
                    exact ⟨by rw [E35.out]; rfl, below_step hbx hbw3⟩
                  · by_cases ha8 : g.f1 > 8
                    · have E35 := Aside0.mk (sig_stop (v := 35) ES.out (by rw [EN.out, if_pos (.inr ha8)]) (by decide))
                      clear EN ES
                      go_wp2_with fail
                      go_ret
                      exact ⟨by rw [E35.out]; rfl, below_step hbx hbw3⟩
                    · rw [if_neg (by omega)] at EN
                      have cc := contains_calls _ (some ad) l0 i c0 wr.heap.size g.f0 (Kd.C_below HR0.out (below_step hbx hbw3)) (by omega) hz3 q0'
                      generalize ((l0.take i).any (fun x => x.f0.toList == g.f0.toList)) = T at EN cc
                      have hic : i ≤ c0 := by have := HC0.out; omega
                      cases T with
                      | true =>
                        have E36 := Aside0.mk (sig_stop (v := 36) ES.out (by rw [EN.out]; rfl) (by decide))
                        clear EN ES
                        go_wp2_with (first | (go_at_call 89; refine cc.mono ?_; rintro e w4 ⟨rfl, hb4⟩))
                        go_ret
                        exact ⟨by rw [E36.out]; rfl, below_step hbx (below_step hbw3 hb4)⟩
                      | false =>
                        have E0 := Aside0.mk (sig_go ES.out (by rw [EN.out]; rfl))
                        clear EN ES
                        go_wp2_with (first | (go_at_call 89; refine cc.mono ?_; rintro e w4 ⟨rfl, hb4⟩))
                        go_roundg k1
                        case measure => omega
                        case rel => exact ⟨i + 1, by go_num, E0, below_step hbx (below_step hbw3 hb4), by omega, by omega⟩
              · have h35b : (((g.f0[g.f0.size - 1]'(by omega)).toNat : Int) != 35) = true := bne_iff_ne.mpr h35
                have E34 := Aside0.mk (sig_stop (v := 34) ES.out (by rw [EN.out]; simp [markOk, hlast, h35]) (by decide))
                clear EN ES hlast h35 hz
                go_wp2_with fail
                refine (c1 _ (HTr.out.below (by repeat (first | exact Below.refl _ _ | apply below_alloc)))).mono ?_
                rintro e w2 ⟨rfl, hb2⟩
                obtain ⟨q0, q1, hz2, hbw2⟩ := two_cells hb2
                clear hb2
                go_wp2_with fail
                go_ret
                exact ⟨by rw [E34.out]; rfl, below_step hbx hbw2⟩
          | true =>
            rw [h1] at EN c1
            clear h1
            simp only [Bool.true_or, Bool.not_true, Bool.false_eq_true, if_false] at EN
            go_wp2_with fail
            refine (c1 _ (HTr.out.below (by repeat (first | exact Below.refl _ _ | apply below_alloc)))).mono ?_
            rintro e w2 ⟨rfl, hb2⟩
            obtain ⟨q0', q1', hz3, hbw3⟩ := two_cells hb2
            clear hb2 c1
            by_cases ha : g.f1 < 0
            · have E35 := Aside0.mk (sig_stop (v := 35) ES.out (by rw [EN.out, if_pos (.inl ha)]) (by decide))
              clear EN ES
              go_wp2_with fail
              go_ret
              exact ⟨by rw [E35.out]; rfl, below_step hbx hbw3⟩
            · by_cases ha8 : g.f1 > 8
              · have E35 := Aside0.mk (sig_stop (v := 35) ES.out (by rw [EN.out, if_pos (.inr ha8)]) (by decide))
                clear EN ES
                go_wp2_with fail
                go_ret
                exact ⟨by rw [E35.out]; rfl, below_step hbx hbw3⟩
              · rw [if_neg (by omega)] at EN
                have cc := contains_calls _ (some ad) l0 i c0 wr.heap.size g.f0 (Kd.C_below HR0.out (below_step hbx hbw3)) (by omega) hz3 q0'
                generalize ((l0.take i).any (fun x => x.f0.toList == g.f0.toList)) = T at EN cc
                have hic : i ≤ c0 := by have := HC0.out; omega
                cases T with
                | true =>
                  have E36 := Aside0.mk (sig_stop (v := 36) ES.out (by rw [EN.out]; rfl) (by decide))
                  clear EN ES
                  go_wp2_with (first | (go_at_call 89; refine cc.mono ?_; rintro e w4 ⟨rfl, hb4⟩))
                  go_ret
                  exact ⟨by rw [E36.out]; rfl, below_step hbx (below_step hbw3 hb4)⟩
                | false =>
                  have E0 := Aside0.mk (sig_go ES.out (by rw [EN.out]; rfl))
                  clear EN ES
                  go_wp2_with (first | (go_at_call 89; refine cc.mono ?_; rintro e w4 ⟨rfl, hb4⟩))
                  go_roundg k1
                  case measure => omega
                  case rel => exact ⟨i + 1, by go_num, E0, below_step hbx (below_step hbw3 hb4), by omega, by omega⟩
        · have E2 := Aside0.mk (EA.out.trans (by rw [sigFrom, if_neg hi]))
          clear EA
          go_wp2
          go_ret
          exact ⟨by rw [E2.out]; rfl, hbx⟩
end Go.Proofs.YtjckddaaeiffpaaDoor.Z
