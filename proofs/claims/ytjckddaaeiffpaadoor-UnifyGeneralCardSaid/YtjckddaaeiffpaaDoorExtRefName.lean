/- The reference's names: good (a text's runes written anew are the text just if it is right UTF-8) and Name. -/
import Derived.Test.YtjckddaaeiffpaaDoorZ0
import Derived.Test.YtjckddaaeiffpaaDoorZ0e
import Derived.Test.YtjckddaaeiffpaaDoorExtName
import Derived.Lib.OthersKept
import Derived.Lib.ValidU
import Derived.Lib.MapLaws
import Derived.Lib.TrimUEq
import Derived.Laws.Cover4
import Derived.Stop.FmtQuoteTie
import Derived.Outline
namespace Go.Proofs.YtjckddaaeiffpaaDoor.Z
open Go.RowKit Go.Proofs.YtjckddaaeiffpaaDoorW.PrintWords Go.Proofs.YtjckddaaeiffpaaDoorW.PrintLast Go.Proofs.YtjckddaaeiffpaaDoorW.PrintMore
attribute [local go_sem] max2_int min2_int max_two min_two max_three min_three max_four min_four   -- for this text's walks alone
set_option linter.unusedVariables false
set_option linter.unusedSimpArgs false

/-- From pos on no decoding fails. -/
def okFrom : Nat → ByteArray → Nat → Bool
  | 0, _, _ => true
  | k + 1, s, pos => if pos < s.size then (if (Utf8.decode s pos).1 = 65533 ∧ (Utf8.decode s pos).2 = 1 then false else okFrom k s (pos + (Utf8.decode s pos).2)) else true
theorem valid_from (s : ByteArray) : ∀ (k pos : Nat), pos ≤ s.size → Lib.validGoD k (s.data.toList.drop pos) = okFrom k s pos := by
  intro k
  induction k with
  | zero => intro pos hp; rfl
  | succ k ih =>
    intro pos hp
    rw [Lib.validGoD, okFrom, Lib.decodeL_drop]
    by_cases h : pos < s.size
    · have hne : s.data.toList.drop pos ≠ [] := by
        intro e
        have := congrArg List.length e
        simp at this
        have h2 : s.data.size = s.size := rfl
        omega
      have hle := Lib.decodeL_le _ hne
      rw [Lib.decodeL_drop] at hle
      rw [if_neg hne, if_pos h]
      by_cases h1 : (Utf8.decode s pos).1 = 65533 ∧ (Utf8.decode s pos).2 = 1
      · rw [if_pos h1, if_pos h1]
      · rw [if_neg h1, if_neg h1, List.drop_drop, ih]
        simp at hle
        have h2 : s.data.size = s.size := rfl
        omega
    · have hne : s.data.toList.drop pos = [] := by
        apply List.drop_eq_nil_of_le
        simp
        have h2 : s.data.size = s.size := rfl
        omega
      rw [if_pos hne, if_neg h]
theorem valid_all (s : ByteArray) : Lib.validD s.data.toList = okFrom s.size s 0 := by
  have h := valid_from s s.size 0 (Nat.zero_le _)
  rw [List.drop_zero] at h
  rw [← h]
  rfl
theorem ok_fuel (s : ByteArray) : ∀ (k m pos : Nat), s.size ≤ pos + k → s.size ≤ pos + m → okFrom k s pos = okFrom m s pos := by
  intro k
  induction k with
  | zero =>
    intro m pos h1 h2
    cases m with
    | zero => rfl
    | succ m => rw [okFrom, okFrom, if_neg (by omega)]
  | succ k ih =>
    intro m pos h1 h2
    cases m with
    | zero => rw [okFrom, okFrom, if_neg (by omega)]
    | succ m =>
      rw [okFrom, okFrom]
      split
      · rename_i h
        have := width_pos s pos h
        split
        · rfl
        · exact ih _ _ (by omega) (by omega)
      · rfl
theorem width_le (s : ByteArray) (pos : Nat) (h : pos < s.size) : pos + (Utf8.decode s pos).2 ≤ s.size := by
  have hne : s.data.toList.drop pos ≠ [] := by
    intro e
    have := congrArg List.length e
    simp at this
    have h2 : s.data.size = s.size := rfl
    omega
  have hle := Lib.decodeL_le _ hne
  rw [Lib.decodeL_drop] at hle
  simp at hle
  have h2 : s.data.size = s.size := rfl
  omega
theorem encode_is (r : Nat) : (Utf8.encode (r : Int)).data.toList = Lib.encodeRune (r : Int) := by
  unfold Lib.encodeRune
  rw [← Extern.FmtText.encode_eq]
  rw [Extern.FmtText.nums, List.map_map]
  conv => lhs; rw [← List.map_id (Utf8.encode (r : Int)).data.toList]
  apply List.map_congr_left
  intro x _
  simp
/-- What the text that is written anew is, up to a place. -/
def Anew (s : ByteArray) (pos : Nat) (t : ByteArray) : Prop := (t.data.toList = s.data.toList.take pos ∧ okFrom s.size s 0 = okFrom s.size s pos) ∨ (pos < t.size ∧ okFrom s.size s 0 = false)
theorem encode_size (r : Nat) : (Utf8.encode (r : Int)).size = (Lib.encodeRune (r : Int)).length := by
  rw [← encode_is]
  exact Lib.size_eq _
theorem enc_bad_len : (Lib.encodeRune ((65533 : Nat) : Int)).length = 3 := by
  have h := Lib.encodeRuneZ_three (r := ((65533 : Nat) : Int)) (.inr ⟨by decide, by decide⟩)
  rw [Lib.encodeRune, h]
  rfl
theorem anew_step {s t : ByteArray} {pos : Nat} (h : Anew s pos t) (hp : pos < s.size) : Anew s (pos + (Utf8.decode s pos).2) (t ++ Utf8.encode ((Utf8.decode s pos).1 : Int)) := by
  have hne : s.data.toList.drop pos ≠ [] := by
    intro e
    have := congrArg List.length e
    simp at this
    have h2 : s.data.size = s.size := rfl
    omega
  have hle := Lib.decodeL_le _ hne
  have hed := Lib.encode_decode _ hne
  rw [Lib.decodeL_drop] at hle hed
  have hst : okFrom s.size s pos = (if (Utf8.decode s pos).1 = 65533 ∧ (Utf8.decode s pos).2 = 1 then false else okFrom s.size s (pos + (Utf8.decode s pos).2)) := by
    have hw := width_pos s pos hp
    rw [ok_fuel s s.size (s.size + 1) pos (by omega) (by omega), okFrom, if_pos hp]
  have hsz : (t ++ Utf8.encode ((Utf8.decode s pos).1 : Int)).size = t.size + (Lib.encodeRune ((Utf8.decode s pos).1 : Int)).length := by
    rw [ByteArray.size_append, encode_size]
  by_cases hv : (Utf8.decode s pos).1 = 65533 ∧ (Utf8.decode s pos).2 = 1
  · right
    rw [if_pos hv] at hst
    have e3 : (Lib.encodeRune ((Utf8.decode s pos).1 : Int)).length = 3 := by rw [hv.1]; exact enc_bad_len
    rw [hsz, e3, hv.2]
    rcases h with ⟨h1, h2⟩ | ⟨h1, h2⟩
    · have hl := congrArg List.length h1
      simp at hl
      have h3 : t.data.size = t.size := rfl
      have h4 : s.data.size = s.size := rfl
      exact ⟨by omega, h2.trans hst⟩
    · exact ⟨by omega, h2⟩
  · rw [if_neg hv] at hst
    rcases h with ⟨h1, h2⟩ | ⟨h1, h2⟩
    · left
      refine ⟨?_, h2.trans hst⟩
      rw [ByteArray.data_append, Array.toList_append, encode_is, hed hv, h1, List.take_add]
    · right
      have hl := congrArg List.length (hed hv)
      rw [List.length_take, Nat.min_eq_left hle] at hl
      exact ⟨by omega, h2⟩
theorem anew_end {s t : ByteArray} {pos : Nat} (h : Anew s pos t) (hp : ¬ pos < s.size) (hle : pos ≤ s.size) : (t.toList == s.toList) = Lib.validD s.data.toList := by
  rw [valid_all, ByteArray.toList_eq, ByteArray.toList_eq]
  have h4 : s.data.size = s.size := rfl
  have h3 : t.data.size = t.size := rfl
  rcases h with ⟨h1, h2⟩ | ⟨h1, h2⟩
  · rw [h2, h1, List.take_of_length_le (by simp; omega)]
    have he : okFrom s.size s pos = true := by
      rw [ok_fuel s s.size 0 pos (by omega) (by omega)]
      rfl
    rw [he]
    simp
  · rw [h2, beq_eq_false_iff_ne]
    intro e
    have := congrArg List.length e
    simp at this
    omega
set_option maxHeartbeats 4000000 in
set_option maxRecDepth 100000 in
theorem good_calls (s : ByteArray) (w : World) (hs : s.size ≤ 32) :
    Calls Tryd.prog 85 #[.string s] w fun e w' => e = .returned (.bool (Lib.validD s.data.toList)) ∧ Below w.heap.size w w' := by
  go_enter Tryd.func85, Tryd.ntmps85
  go_wp2_with fail
  go_loopg [3, 5] 33 (fun kq v3 v5 wx => ∃ (pos : Nat) (t : ByteArray), v3 = .string t ∧ Aside0 (Anew s pos t) ∧ wx.heap[w.heap.size]? = some (.stringIter s pos) ∧ Below w.heap.size w wx ∧ s.size < pos + kq ∧ pos ≤ s.size ∧ t.size ≤ 4 * pos)
  case atStart => exact ⟨0, _, rfl, ⟨.inl ⟨rfl, rfl⟩⟩, heap_alloc_new w _, below_alloc (Below.refl _ _) _, by omega, by omega, Nat.le_refl _⟩
  case round =>
    obtain ⟨pos, t, rfl, EA, hit, hbx, hlt, hle, hts⟩ := hrel
    by_cases hp : pos < s.size
    · have hnx : ∀ ty, (Instr.next (.pointer (some ⟨w.heap.size, 0, none⟩)) true ty).run Tryd.prog wr = _ := fun ty => Lib.run_next_any_at wr w.heap.size s pos ty hit hp
      have hit2 := Lib.iterAt_heap wr w.heap.size s pos (pos + (Utf8.decode s pos).2) hit
      have hbx2 := Lib.below_iterAt hbx (Nat.le_refl _) s (pos + (Utf8.decode s pos).2)
      have hw1 := width_pos s pos hp
      have hwl := width_le s pos hp
      have E2 := Aside0.mk (anew_step EA.out hp)
      cases gk with
      | zero => omega
      | succ k1 =>
        clear hit hbx EA
        generalize (Utf8.decode s pos).1 = r at *
        generalize (Utf8.decode s pos).2 = pw at *
        generalize wr.iterAt w.heap.size s (pos + pw) = wy at *
        have hes := encode_size_le (r : Int)
        go_wp2
        go_roundg k1
        case measure => omega
        case rel => exact ⟨pos + pw, _, rfl, E2, hit2, hbx2, by omega, by omega, by rw [ByteArray.size_append]; omega⟩
    · have hnx : ∀ ty, (Instr.next (.pointer (some ⟨w.heap.size, 0, none⟩)) true ty).run Tryd.prog wr = _ := fun ty => Lib.run_next_end_at wr w.heap.size s pos ty hit hp
      have E2 := Aside0.mk (anew_end EA.out hp hle)
      clear EA
      go_wp2
      go_ret
      exact ⟨by rw [← E2.out]; rfl, hbx⟩
theorem rletter_calls (r : Nat) (w : World) : Calls Tryd.prog 86 #[.int .i32 r] w fun e w' => e = .returned (.bool (letterB r)) ∧ Drawn0 w w' :=
  lodestoneref03_letter.calls r (letterB r) w (by
    unfold lodestoneref03_letter.f letterB
    repeat' split
    all_goals (congr 1; rw [Bool.eq_iff_iff]; simp; omega))
theorem rmore_calls (r : Nat) (w : World) : Calls Tryd.prog 87 #[.int .i32 r] w fun e w' => e = .returned (.bool (letterB r || digB r)) ∧ Drawn0 w w' :=
  lodestoneref03_more.calls r (letterB r || digB r) w (by
    have h : lodestoneref03_letter.f r = some (letterB r) := by
      unfold lodestoneref03_letter.f letterB
      repeat' split
      all_goals (congr 1; rw [Bool.eq_iff_iff]; simp; omega)
    unfold lodestoneref03_more.f
    rw [h]
    simp only [Option.bind_some]
    cases letterB r with
    | true => simp
    | false =>
      simp only [Bool.false_eq_true, if_false, Bool.false_or]
      unfold digB
      repeat' split
      all_goals (congr 1; rw [Bool.eq_iff_iff]; simp; omega))
/-- The reference's Name: a given function of the print. -/
def lodestoneref03_Name.f (a0 : ByteArray) : Option Bool := some (nameOk a0)
set_option maxHeartbeats 4000000 in
set_option maxRecDepth 100000 in
theorem lodestoneref03_Name.calls (a0 : ByteArray) (r : Bool) (w : World) (h : lodestoneref03_Name.f a0 = some r) :
    Calls Tryd.prog 71 #[.string a0] w fun e w' => e = .returned (.bool r) ∧ Below w.heap.size w w' := by
  obtain rfl := Option.some.inj h
  clear h
  by_cases h0 : a0.size = 0
  · have E := Aside0.mk (show nameOk a0 = false by simp [nameOk, h0])
    have hl : a0.toList.isEmpty = true := toList_isEmpty h0
    go_enter Tryd.func71, Tryd.ntmps71
    go_wp2_with fail
    go_ret
    exact ⟨by rw [E.out]; rfl, Below.refl _ _⟩
  · have hl : a0.toList.isEmpty = false := toList_nonempty h0
    by_cases h32 : 32 < a0.size
    · have E := Aside0.mk (show nameOk a0 = false by simp [nameOk]; omega)
      go_enter Tryd.func71, Tryd.ntmps71
      go_wp2_with fail
      go_ret
      exact ⟨by rw [E.out]; rfl, Below.refl _ _⟩
    · have cV := good_calls a0 w (by omega)
      generalize hVV : Lib.validD a0.data.toList = V at cV
      cases V with
      | false =>
        have E := Aside0.mk (show nameOk a0 = false by simp [nameOk, hVV])
        clear hVV
        go_enter Tryd.func71, Tryd.ntmps71
        go_wp2_with (first | (go_at_call 85; refine cV.mono ?_; rintro e w' ⟨rfl, hb⟩))
        go_ret
        exact ⟨by rw [E.out]; rfl, hb⟩
      | true =>
        have E := Aside0.mk (show nameOk a0 = scanName 33 a0 0 by simp only [nameOk, hVV, decide_eq_true (show a0.size ≠ 0 from h0), decide_eq_true (show a0.size ≤ 32 by omega), Bool.true_and])
        clear hVV
        go_enter Tryd.func71, Tryd.ntmps71
        go_wp2_with (first | (go_at_call 85; refine cV.mono ?_; rintro e w1 ⟨rfl, hb⟩))
        clear cV
        go_loopg [3, 4] 33 (fun kq v3 v4 wx => ∃ pos : Nat, Aside0 (nameOk a0 = scanName kq a0 pos) ∧ wx.heap[w1.heap.size]? = some (.stringIter a0 pos) ∧ Below w.heap.size w wx ∧ a0.size < pos + kq)
        case atStart => exact ⟨0, E, heap_alloc_new w1 _, below_alloc hb _, by omega⟩
        case round =>
          obtain ⟨pos, EA, hit, hbx, hlt⟩ := hrel
          clear hl h0 h32
          by_cases hp : pos < a0.size
          · have hnx : ∀ ty, (Instr.next (.pointer (some ⟨w1.heap.size, 0, none⟩)) true ty).run Tryd.prog wr = _ := fun ty => Lib.run_next_any_at wr w1.heap.size a0 pos ty hit hp
            have hit2 := Lib.iterAt_heap wr w1.heap.size a0 pos (pos + (Utf8.decode a0 pos).2) hit
            have hbx2 := Lib.below_iterAt hbx hb.size a0 (pos + (Utf8.decode a0 pos).2)
            have hw1 := width_pos a0 pos hp
            cases gk with
            | zero => omega
            | succ k1 =>
              have HST := Aside0.mk (scan_step k1 a0 pos hp)
              have HNO := Aside0.mk (scan_no k1 a0 pos hp)
              clear hit hbx
              generalize (Utf8.decode a0 pos).1 = r at *
              generalize (Utf8.decode a0 pos).2 = pw at *
              generalize wr.iterAt w1.heap.size a0 (pos + pw) = wy at *
              have cL := rletter_calls r
              have cM := rmore_calls r
              by_cases hz : pos = 0
              · subst hz
                cases hl1 : letterB r with
                | true =>
                  simp only [hl1, Bool.true_or] at cL cM
                  have E2 := Aside0.mk (EA.out.trans (HST.out (.inl hl1)))
                  clear hl1 HST HNO EA
                  go_wp2_with (first | (go_at_call 86; refine (cL _).mono ?_; rintro e w' ⟨rfl, ⟨nd, rfl⟩⟩) | (go_at_call 87; refine (cM _).mono ?_; rintro e w' ⟨rfl, ⟨nd2, rfl⟩⟩))
                  go_roundg k1
                  case measure => omega
                  case rel => exact ⟨0 + pw, E2, hit2, by repeat (first | exact hbx2 | apply pw_below_drewN), by omega⟩
                | false =>
                  simp only [hl1] at cL
                  have E2 := Aside0.mk (EA.out.trans (HNO.out hl1 (by omega)))
                  clear hl1 HST HNO EA cM
                  go_wp2_with (first | (go_at_call 86; refine (cL _).mono ?_; rintro e w' ⟨rfl, ⟨nd, rfl⟩⟩))
                  go_ret
                  exact ⟨by rw [E2.out]; rfl, by repeat (first | exact hbx2 | apply pw_below_drewN)⟩
              · have hz2 : ((pos : Int) == 0) = false := by simp; omega
                clear cL
                generalize hm : (letterB r || digB r) = M at cM
                cases M with
                | true =>
                  have E2 := Aside0.mk (EA.out.trans (HST.out (by simp at hm; rcases hm with h | h; exact .inl h; exact .inr ⟨by omega, h⟩)))
                  clear hm HST HNO EA hz
                  go_wp2_with (first | (go_at_call 87; refine (cM _).mono ?_; rintro e w' ⟨rfl, ⟨nd2, rfl⟩⟩))
                  go_roundg k1
                  case measure => omega
                  case rel => exact ⟨pos + pw, E2, hit2, by repeat (first | exact hbx2 | apply pw_below_drewN), by omega⟩
                | false =>
                  have E2 := Aside0.mk (EA.out.trans (HNO.out (by simp at hm; exact hm.1) (by simp at hm; simp [hm.2])))
                  clear hm HST HNO EA hz
                  go_wp2_with (first | (go_at_call 87; refine (cM _).mono ?_; rintro e w' ⟨rfl, ⟨nd2, rfl⟩⟩))
                  go_ret
                  exact ⟨by rw [E2.out]; rfl, by repeat (first | exact hbx2 | apply pw_below_drewN)⟩
          · have hnx : ∀ ty, (Instr.next (.pointer (some ⟨w1.heap.size, 0, none⟩)) true ty).run Tryd.prog wr = _ := fun ty => Lib.run_next_end_at wr w1.heap.size a0 pos ty hit hp
            have E2 := Aside0.mk (EA.out.trans (scan_end gk a0 pos hp))
            clear EA
            go_wp2
            go_ret
            exact ⟨by rw [E2.out]; rfl, hbx⟩
end Go.Proofs.YtjckddaaeiffpaaDoor.Z
