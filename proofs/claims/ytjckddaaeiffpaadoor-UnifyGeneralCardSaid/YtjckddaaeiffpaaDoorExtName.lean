/- Names: (term.named) and the reference's Name and good; what the bytes of a name must be. -/
import Derived.Test.YtjckddaaeiffpaaDoorZ0
import Derived.Test.YtjckddaaeiffpaaDoorZ0e
import Derived.Lib.OthersKept
import Derived.Lib.ValidU
import Derived.Outline
import Derived.Test.YtjckddaaeiffpaaDoorShelf
namespace Go.Proofs.YtjckddaaeiffpaaDoor.Z
open Go.RowKit Go.Proofs.YtjckddaaeiffpaaDoorW.PrintWords Go.Proofs.YtjckddaaeiffpaaDoorW.PrintLast Go.Proofs.YtjckddaaeiffpaaDoorW.PrintMore
attribute [local go_sem] max2_int min2_int max_two min_two max_three min_three max_four min_four   -- for this text's walks alone
set_option linter.unusedVariables false
set_option linter.unusedSimpArgs false

/-- A rune that may begin a name; that may stand in one. -/
def letterB (r : Nat) : Bool := decide (97 ≤ r ∧ r ≤ 122) || decide (65 ≤ r ∧ r ≤ 90) || decide (128 ≤ r)
def digB (r : Nat) : Bool := decide (48 ≤ r ∧ r ≤ 57) || decide (r = 95) || decide (r = 39)
def scanName : Nat → ByteArray → Nat → Bool
  | 0, _, _ => true
  | k + 1, s, pos => if pos < s.size then (if letterB (Utf8.decode s pos).1 || (decide (0 < pos) && digB (Utf8.decode s pos).1) then scanName k s (pos + (Utf8.decode s pos).2) else false) else true
def nameOk (s : ByteArray) : Bool := decide (s.size ≠ 0) && decide (s.size ≤ 32) && Lib.validD s.data.toList && scanName 33 s 0
theorem width_pos (s : ByteArray) (pos : Nat) (h : pos < s.size) : 1 ≤ (Utf8.decode s pos).2 := by
  by_cases ha : (s[pos]'h).toNat < 128
  · rw [decode_ascii s pos h ha]
    exact Nat.le_refl _
  · exact (decode_high s pos h (by omega)).2
theorem letter_is (r : Nat) : term_letter.f (r : Int) = some (letterB r) := by
  unfold term_letter.f letterB
  repeat' split
  all_goals (congr 1; rw [Bool.eq_iff_iff]; simp; omega)
theorem dig_cases {r : Nat} (h : digB r = true) : (48 ≤ r ∧ r ≤ 57) ∨ r = 95 ∨ r = 39 := by
  simp [digB] at h
  omega
theorem not_dig_cases {pos r : Nat} (h : ¬ (0 < pos ∧ digB r = true)) : pos = 0 ∨ (r < 48 ∨ 57 < r) ∧ ((r : Int) == 95) = false ∧ ((r : Int) == 39) = false := by
  by_cases h0 : 0 < pos
  · right
    have h2 : ¬ digB r = true := fun hd => h ⟨h0, hd⟩
    simp [digB] at h2
    refine ⟨by omega, ?_, ?_⟩ <;> simp <;> omega
  · left; omega
/-- The tables of unicode/utf8 lie as they were laid. -/
def Tabs (w : World) : Prop := Lib.Utf8Tabs 0 1 w
theorem Tabs.below {w w1 : World} (h : Tabs w) (hb : Below w.heap.size w w1) : Tabs w1 := by
  have hc : ∀ a v, w.cell? a = some v → w1.cell? a = some v := fun a v hv => (hb.cell (World.block_lt_of_cell? w a hv)).trans hv
  exact ⟨fun c hc' => hc _ _ (h.1 c hc'), fun i hi => ⟨hc _ _ (h.2 i hi).1, hc _ _ (h.2 i hi).2⟩⟩
theorem drewN_below (w : World) (n : Nat) : Below w.heap.size w (w.drewN n) := pw_below_drewN (Below.refl _ _) n
set_option maxHeartbeats 1000000 in
theorem letter_calls (r : Nat) (w : World) : Calls Tryd.prog 98 #[.int .i32 r] w fun e w' => e = .returned (.bool (letterB r)) ∧ Drawn0 w w' :=
  term_letter.calls r (letterB r) w (letter_is r)
theorem scan_step (k : Nat) (s : ByteArray) (pos : Nat) (h : pos < s.size) (hl : letterB (Utf8.decode s pos).1 = true ∨ 0 < pos ∧ digB (Utf8.decode s pos).1 = true) : scanName (k + 1) s pos = scanName k s (pos + (Utf8.decode s pos).2) := by
  rw [scanName, if_pos h, if_pos]
  rcases hl with hl | ⟨h0, hl⟩ <;> simp [hl]
  exact .inr h0
theorem scan_no (k : Nat) (s : ByteArray) (pos : Nat) (h : pos < s.size) (h1 : letterB (Utf8.decode s pos).1 = false) (h2 : ¬ (0 < pos ∧ digB (Utf8.decode s pos).1 = true)) : scanName (k + 1) s pos = false := by
  rw [scanName, if_pos h, if_neg]
  simp [h1]
  intro h0
  by_cases hd : digB (Utf8.decode s pos).1 = true
  · exact absurd ⟨h0, hd⟩ h2
  · simpa using hd
theorem scan_end (k : Nat) (s : ByteArray) (pos : Nat) (h : ¬ pos < s.size) : scanName k s pos = true := by
  cases k with
  | zero => rfl
  | succ k => rw [scanName, if_neg h]
theorem toList_isEmpty {s : ByteArray} (h : s.size = 0) : s.toList.isEmpty = true := by
  rw [ByteArray.toList_eq]
  have : s.data.toList.length = 0 := h
  cases hd : s.data.toList with
  | nil => rfl
  | cons a l => rw [hd] at this; simp at this
theorem toList_nonempty {s : ByteArray} (h : s.size ≠ 0) : s.toList.isEmpty = false := by
  rw [ByteArray.toList_eq]
  have : s.data.toList.length ≠ 0 := h
  cases hd : s.data.toList with
  | nil => rw [hd] at this; simp at this
  | cons a l => rfl
set_option maxHeartbeats 4000000 in
set_option maxRecDepth 100000 in
theorem named_calls (s : ByteArray) (w : World) (hT : Tabs w) :
    Calls Tryd.prog 88 #[.string s] w fun e w' => e = .returned (.bool (nameOk s)) ∧ Below w.heap.size w w' := by
  by_cases h0 : s.size = 0
  · have e0 : nameOk s = false := by simp [nameOk, h0]
    have E := Aside0.mk e0
    clear e0
    have hl : s.toList.isEmpty = true := toList_isEmpty h0
    go_enter Tryd.func88, Tryd.ntmps88
    go_wp2_with fail
    go_ret
    exact ⟨by rw [E.out]; rfl, Below.refl _ _⟩
  · have hl : s.toList.isEmpty = false := toList_nonempty h0
    by_cases h32 : 32 < s.size
    · have e0 : nameOk s = false := by simp [nameOk]; omega
      have E := Aside0.mk e0
      clear e0
      go_enter Tryd.func88, Tryd.ntmps88
      go_wp2_with fail
      go_ret
      exact ⟨by rw [E.out]; rfl, Below.refl _ _⟩
    · have cV := Any.utf8_ValidString Tryd.laysValid s w (by omega) hT
      change Calls Tryd.prog 97 _ _ _ at cV
      clear hT
      generalize hVV : Lib.validD s.data.toList = V at cV
      cases V with
      | false =>
        have e0 : nameOk s = false := by simp [nameOk, hVV]
        have E := Aside0.mk e0
        clear e0 hVV
        go_enter Tryd.func88, Tryd.ntmps88
        go_wp2_with (first | (go_at_call 97; refine cV.mono ?_; rintro e w' ⟨rfl, hb⟩))
        go_ret
        exact ⟨by rw [E.out]; rfl, hb⟩
      | true =>
        have e0 : nameOk s = scanName 33 s 0 := by simp only [nameOk, hVV, decide_eq_true (show s.size ≠ 0 from h0), decide_eq_true (show s.size ≤ 32 by omega), Bool.true_and]
        have E := Aside0.mk e0
        clear e0 hVV
        go_enter Tryd.func88, Tryd.ntmps88
        go_wp2_with (first | (go_at_call 97; refine cV.mono ?_; rintro e w1 ⟨rfl, hb⟩))
        go_loopg [3, 4] 33 (fun kq v3 v4 wx => ∃ pos : Nat, Aside0 (nameOk s = scanName kq s pos) ∧ wx.heap[w1.heap.size]? = some (.stringIter s pos) ∧ Below w.heap.size w wx ∧ s.size < pos + kq)
        case atStart => exact ⟨0, E, heap_alloc_new w1 _, (by first | exact hb.alloc hb.size _ | exact below_alloc hb _), by omega⟩
        case round =>
          obtain ⟨pos, EA, hit, hbx, hlt⟩ := hrel
          clear hl h0 h32
          by_cases hp : pos < s.size
          · have hnx : ∀ ty, (Instr.next (.pointer (some ⟨w1.heap.size, 0, none⟩)) true ty).run Tryd.prog wr = _ := fun ty => Lib.run_next_any_at wr w1.heap.size s pos ty hit hp
            have hit2 := Lib.iterAt_heap wr w1.heap.size s pos (pos + (Utf8.decode s pos).2) hit
            have hbx2 := Lib.below_iterAt hbx hb.size s (pos + (Utf8.decode s pos).2)
            have hw1 := width_pos s pos hp
            cases gk with
            | zero => omega
            | succ k1 =>
              have hst := scan_step k1 s pos hp
              have hno := scan_no k1 s pos hp
              have HST := Aside0.mk hst
              have HNO := Aside0.mk hno
              clear hst hno hit hbx
              generalize hr : (Utf8.decode s pos).1 = r at hnx
              rw [hr] at HST HNO
              generalize hpw : (Utf8.decode s pos).2 = pw at *
              clear hr hpw
              generalize hwy : wr.iterAt w1.heap.size s (pos + pw) = wy at *
              clear hwy
              cases hlt1 : letterB r with
              | true =>
                have cL := letter_calls r wy
                rw [hlt1] at cL
                have L1 := Aside0.mk hlt1
                clear hlt1
                go_wp2_with (first | (go_at_call 98; refine cL.mono ?_; rintro e w' ⟨rfl, ⟨nd, rfl⟩⟩))
                go_roundg k1
                case measure => omega
                case rel => exact ⟨pos + pw, ⟨EA.out.trans (HST.out (.inl L1.out))⟩, hit2, pw_below_drewN hbx2 nd, by omega⟩
              | false =>
                have cL := letter_calls r wy
                rw [hlt1] at cL
                have L1 := Aside0.mk hlt1
                clear hlt1
                by_cases hd : 0 < pos ∧ digB r = true
                · have e2 := EA.out.trans (HST.out (.inr hd))
                  have E2 := Aside0.mk e2
                  obtain ⟨h0p, hdig⟩ := hd
                  clear e2 HST HNO EA
                  have hcs := dig_cases hdig
                  clear hdig
                  rcases hcs with ⟨ha, hb3⟩ | rfl | rfl
                  all_goals
                    go_wp2_with (first | (go_at_call 98; refine cL.mono ?_; rintro e w' ⟨rfl, ⟨nd, rfl⟩⟩))
                    go_roundg k1
                    case measure => omega
                    case rel => exact ⟨pos + pw, ⟨E2.out⟩, hit2, pw_below_drewN hbx2 nd, by omega⟩
                · have e2 := EA.out.trans (HNO.out L1.out hd)
                  have E2 := Aside0.mk e2
                  clear e2 HST HNO EA
                  have hcs := not_dig_cases hd
                  clear hd
                  rcases hcs with h0p | ⟨hx, h95, h39⟩
                  · obtain rfl : pos = 0 := by omega
                    go_wp2_with (first | (go_at_call 98; refine cL.mono ?_; rintro e w' ⟨rfl, ⟨nd, rfl⟩⟩))
                    go_ret
                    exact ⟨by rw [E2.out]; rfl, pw_below_drewN hbx2 nd⟩
                  · by_cases h0p : 0 < pos
                    · rcases hx with hx | hx
                      all_goals
                        go_wp2_with (first | (go_at_call 98; refine cL.mono ?_; rintro e w' ⟨rfl, ⟨nd, rfl⟩⟩))
                        go_ret
                        exact ⟨by rw [E2.out]; rfl, pw_below_drewN hbx2 nd⟩
                    · obtain rfl : pos = 0 := by omega
                      go_wp2_with (first | (go_at_call 98; refine cL.mono ?_; rintro e w' ⟨rfl, ⟨nd, rfl⟩⟩))
                      go_ret
                      exact ⟨by rw [E2.out]; rfl, pw_below_drewN hbx2 nd⟩
          · have hnx : ∀ ty, (Instr.next (.pointer (some ⟨w1.heap.size, 0, none⟩)) true ty).run Tryd.prog wr = _ := fun ty => Lib.run_next_end_at wr w1.heap.size s pos ty hit hp
            have e2 := EA.out.trans (scan_end gk s pos hp)
            have E2 := Aside0.mk e2
            clear e2 EA
            go_wp2
            go_ret
            exact ⟨by rw [E2.out]; rfl, hbx⟩
end Go.Proofs.YtjckddaaeiffpaaDoor.Z
