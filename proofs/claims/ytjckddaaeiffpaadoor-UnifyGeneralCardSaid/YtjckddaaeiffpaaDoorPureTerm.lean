/- Rows of codes as terms, by counting what is still open: the plain law of (term.Check). -/
import Derived.Test.YtjckddaaeiffpaaDoorZ0
import Derived.Test.YtjckddaaeiffpaaDoorExtSig
import Derived.Test.YtjckddaaeiffpaaDoorExtTree
namespace Go.Proofs.YtjckddaaeiffpaaDoor.Z
open Go.RowKit Go.Proofs.YtjckddaaeiffpaaDoorW.PrintWords Go.Proofs.YtjckddaaeiffpaaDoorW.PrintLast Go.Proofs.YtjckddaaeiffpaaDoorW.PrintMore
attribute [local go_sem] max2_int min2_int max_two min_two max_three min_three max_four min_four   -- for this text's walks alone
set_option linter.unusedVariables false
set_option linter.unusedSimpArgs false

def ari (sig : List S85) (c : Int) : Nat := (rd_T85 sig c).f1.toNat
/-- What is wrong with a row that is to hold n terms. -/
def cnt (sig : List S85) : List Int → Nat → Int
  | [], 0 => 0
  | _ :: _, 0 => 32
  | [], _ + 1 => 31
  | c :: r, n + 1 => if c ≥ sig.length ∨ c < -1048576 then 30 else if c < 0 then cnt sig r n else cnt sig r (n + ari sig c)
theorem drop_cons {t : List Int} {a : Nat} (h : a < t.length) : t.drop a = rd t a :: t.drop (a + 1) := by
  rw [List.drop_eq_getElem_cons h]
  congr 1
  unfold rd
  rw [Int.toNat_natCast, List.getD_eq_getElem?_getD, List.getElem?_eq_getElem h]
  rfl
theorem kids_cnt (sig : List S85) (t : List Int) (f : Nat → Int → Sh × Nat × Int) (N : Nat)
    (hf0 : ∀ a b, b ≠ 0 → (f a b).2 = (a, b))
    (hf : ∀ a, N ≤ a → a ≤ t.length → a ≤ (f a 0).2.1 ∧ (f a 0).2.1 ≤ t.length ∧ ∀ m, cnt sig (t.drop a) (m + 1) = if (f a 0).2.2 = 0 then cnt sig (t.drop (f a 0).2.1) m else (f a 0).2.2) :
    ∀ n a b acc, N ≤ a → a ≤ t.length → (b ≠ 0 → (readKids f n a b acc).2 = (a, b)) ∧ (b = 0 → ∀ m, cnt sig (t.drop a) (m + n) = if (readKids f n a 0 acc).2.2 = 0 then cnt sig (t.drop (readKids f n a 0 acc).2.1) m else (readKids f n a 0 acc).2.2) := by
  intro n
  induction n with
  | zero => intro a b acc _ _; exact ⟨fun _ => rfl, fun _ m => by simp [readKids]⟩
  | succ n ih =>
    intro a b acc hN ha
    refine ⟨fun hb => ?_, fun hb m => ?_⟩
    · rw [readKids, hf0 a b hb]
      exact (ih a b _ hN ha).1 hb
    · obtain ⟨h1, h2, h3⟩ := hf a hN ha
      rw [readKids, show m + (n + 1) = (m + n) + 1 by omega, h3]
      by_cases e : (f a 0).2.2 = 0
      · rw [if_pos e, e]
        exact (ih _ 0 _ (by omega) h2).2 rfl m
      · rw [if_neg e, (ih (f a 0).2.1 (f a 0).2.2 _ (by omega) h2).1 e, if_neg e]
theorem read_cnt (sig : List S85) (har : arOk sig) (t : List Int) : ∀ k a, t.length < a + k → a ≤ t.length → a ≤ (readF k sig t a 0).2.1 ∧ (readF k sig t a 0).2.1 ≤ t.length ∧
    ∀ m, cnt sig (t.drop a) (m + 1) = if (readF k sig t a 0).2.2 = 0 then cnt sig (t.drop (readF k sig t a 0).2.1) m else (readF k sig t a 0).2.2 := by
  intro k
  induction k with
  | zero => intro a h1 h2; omega
  | succ k ih =>
    intro a hk ha
    have hbd := read_bounds sig har t (k + 1) a 0 ha
    refine ⟨hbd.1, hbd.2.1, fun m => ?_⟩
    clear hbd
    by_cases hl : a = t.length
    · have e : readF (k + 1) sig t a 0 = (.leaf, a, 31) := by rw [readF, if_neg (by simp), if_pos hl]
      rw [e, hl, List.drop_length]
      rfl
    · rw [readF_go k sig t a hl, drop_cons (show a < t.length by omega), cnt]
      by_cases hb : rd t a ≥ sig.length ∨ rd t a < -1048576
      · rw [if_pos hb, if_pos hb]
        rfl
      · rw [if_neg hb, if_neg hb]
        by_cases hv : rd t a < 0
        · rw [if_pos hv, if_pos hv]
          simp
        · rw [if_neg hv, if_neg hv]
          have h0 : ∀ a b, b ≠ 0 → (readF k sig t a b).2 = (a, b) := by
            intro a b hb
            cases k with
            | zero => rfl
            | succ k => rw [readF, if_pos hb]
          exact (kids_cnt sig t (fun a b => readF k sig t a b) (a + 1) h0 (fun a' h1 h2 => ih a' (by omega) h2) (ari sig (rd t a)) (a + 1) 0 [] (Nat.le_refl _) (by omega)).2 rfl m
theorem termErr_cnt (sig : List S85) (har : arOk sig) (t : List Int) : termErr sig t = cnt sig t 1 := by
  obtain ⟨h1, h2, h3⟩ := read_cnt sig har t (t.length + 1) 0 (by omega) (Nat.zero_le _)
  have h4 := h3 0
  rw [List.drop_zero] at h4
  rw [h4, termErr]
  by_cases e : (readF (t.length + 1) sig t 0 0).2.2 = 0
  · rw [if_pos e]
    by_cases hlt : (readF (t.length + 1) sig t 0 0).2.1 < t.length
    · rw [if_pos ⟨e, hlt⟩, drop_cons hlt]
      rfl
    · rw [if_neg (fun h => hlt h.2), e, List.drop_eq_nil_of_le (by omega)]
      rfl
  · rw [if_neg (fun h => e h.1), if_neg e]
/-- A row of n terms. -/
inductive Terms (sig : List S85) : Nat → List Int → Prop where
  | nil : Terms sig 0 []
  | var {n : Nat} {t : List Int} (c : Int) (h : c < 0) (h2 : -1048576 ≤ c) (ht : Terms sig n t) : Terms sig (n + 1) (c :: t)
  | app {n : Nat} {t : List Int} (c : Int) (h : 0 ≤ c) (h2 : c < sig.length) (ht : Terms sig (n + ari sig c) t) : Terms sig (n + 1) (c :: t)
theorem terms_iff (sig : List S85) : ∀ (t : List Int) (n : Nat), cnt sig t n = 0 ↔ Terms sig n t := by
  intro t
  induction t with
  | nil =>
    intro n
    cases n with
    | zero => exact ⟨fun _ => .nil, fun _ => rfl⟩
    | succ n => exact ⟨fun h => by simp [cnt] at h, fun h => by cases h⟩
  | cons c r ih =>
    intro n
    cases n with
    | zero => exact ⟨fun h => by simp [cnt] at h, fun h => by cases h⟩
    | succ n =>
      rw [cnt]
      by_cases hb : c ≥ sig.length ∨ c < -1048576
      · rw [if_pos hb]
        exact ⟨fun h => by simp at h, fun h => by cases h <;> omega⟩
      · rw [if_neg hb]
        by_cases hv : c < 0
        · rw [if_pos hv, ih]
          exact ⟨fun h => .var c hv (by omega) h, fun h => by cases h with | var _ _ _ ht => exact ht | app _ h0 _ _ => omega⟩
        · rw [if_neg hv, ih]
          exact ⟨fun h => .app c (by omega) (by omega) h, fun h => by cases h with | var _ h0 _ _ => omega | app _ _ _ ht => exact ht⟩
theorem chk_ok {sig : List S85} {t : List Int} (h : chk sig t = 0) : sigErr sig = 0 ∧ Terms sig 1 t := by
  rw [chk] at h
  by_cases e : sigErr sig = 0
  · rw [if_pos e, termErr_cnt sig (sig_ar e)] at h
    exact ⟨e, (terms_iff sig t 1).1 h⟩
  · rw [if_neg e] at h
    exact absurd h e
theorem Terms.cat {sig : List S85} {n m : Nat} {u v : List Int} (h : Terms sig n u) (k : Terms sig m v) : Terms sig (n + m) (u ++ v) := by
  induction h with
  | nil => simpa using k
  | var c h1 h2 ht ih => rw [Nat.add_right_comm]; exact .var c h1 h2 ih
  | app c h1 h2 ht ih => rw [Nat.add_right_comm]; exact .app c h1 h2 (by rw [Nat.add_right_comm]; exact ih)
/-- The first of the terms of a row: how many codes it has. -/
theorem Terms.split {sig : List S85} : ∀ {t : List Int} {n m : Nat}, Terms sig (n + m) t → ∃ u v, t = u ++ v ∧ Terms sig n u ∧ Terms sig m v := by
  intro t
  induction t with
  | nil =>
    intro n m h
    generalize hk : n + m = k at h
    cases h
    obtain ⟨rfl, rfl⟩ : n = 0 ∧ m = 0 := by omega
    exact ⟨[], [], rfl, .nil, .nil⟩
  | cons c r ih =>
    intro n m h
    cases n with
    | zero => exact ⟨[], c :: r, rfl, .nil, by simpa using h⟩
    | succ n =>
      rw [Nat.add_right_comm] at h
      cases h with
      | var _ h1 h2 ht =>
        obtain ⟨u, v, rfl, hu, hv⟩ := ih ht
        exact ⟨c :: u, v, rfl, .var c h1 h2 hu, hv⟩
      | app _ h1 h2 ht =>
        rw [Nat.add_right_comm] at ht
        obtain ⟨u, v, rfl, hu, hv⟩ := ih ht
        exact ⟨c :: u, v, rfl, .app c h1 h2 hu, hv⟩
end Go.Proofs.YtjckddaaeiffpaaDoor.Z
