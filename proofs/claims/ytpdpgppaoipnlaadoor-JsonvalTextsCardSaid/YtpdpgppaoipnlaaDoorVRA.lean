/- What the claim uses of the text RA. -/
import Derived.Test.YtpdpgppaoipnlaaDoorVJ2
import Derived.Test.YtpdpgppaoipnlaaDoorVNC
set_option linter.unusedVariables false
set_option linter.unusedSimpArgs false
namespace Go.Proofs.YtpdpgppaoipnlaaDoor
section

section
open Go.RowKit Go.PlainAid

mutual
/-- Is a value right, at a level? -/
def okV : JV → Int → Bool
  | ⟨k, t, l, m⟩, lev => decide (oneN ⟨k, t, l, m⟩ lev = 0) && (okL l (lev + 1) && okM m (lev + 1))
def okL : List JV → Int → Bool
  | [], _ => true
  | x :: l, lev => okV x lev && okL l lev
def okM : List (ByteArray × JV) → Int → Bool
  | [], _ => true
  | (_, x) :: l, lev => okV x lev && okM l lev
end
mutual
theorem lkV_ok : ∀ (x : JV) (lev n : Int), (lkV oneN x lev n).2 = 0 ↔ okV x lev = true
  | ⟨k, t, l, m⟩, lev, n => by
    have h1 := lkL_ok l (lev + 1) (n + 1)
    have h2 := lkM_ok m (lev + 1) (lkL oneN l (lev + 1) (n + 1)).1
    rw [lkV, okV]
    by_cases c : oneN ⟨k, t, l, m⟩ lev = 0
    · rw [if_neg (by simpa using c), decide_eq_true c, Bool.true_and, Bool.and_eq_true, ← h1, ← h2]
      by_cases d : (lkL oneN l (lev + 1) (n + 1)).2 = 0
      · rw [if_neg (by simpa using d)]; simp [d]
      · rw [if_pos d]; simp [d]
    · rw [if_pos c]; simp [c]
theorem lkL_ok : ∀ (l : List JV) (lev n : Int), (lkL oneN l lev n).2 = 0 ↔ okL l lev = true
  | [], lev, n => by simp [lkL, okL]
  | x :: l, lev, n => by
    have h1 := lkV_ok x lev n
    have h2 := lkL_ok l lev (lkV oneN x lev n).1
    rw [lkL, okL, Bool.and_eq_true, ← h1, ← h2]
    by_cases d : (lkV oneN x lev n).2 = 0
    · rw [if_neg (by simpa using d)]; simp [d]
    · rw [if_pos d]; simp [d]
theorem lkM_ok : ∀ (l : List (ByteArray × JV)) (lev n : Int), (lkM oneN l lev n).2 = 0 ↔ okM l lev = true
  | [], lev, n => by simp [lkM, okM]
  | (o, x) :: l, lev, n => by
    have h1 := lkV_ok x lev n
    have h2 := lkM_ok l lev (lkV oneN x lev n).1
    rw [lkM, okM, Bool.and_eq_true, ← h1, ← h2]
    by_cases d : (lkV oneN x lev n).2 = 0
    · rw [if_neg (by simpa using d)]; simp [d]
    · rw [if_pos d]; simp [d]
end
theorem joinC_cons (a b : List Int) (l : List (List Int)) : joinC (a :: b :: l) = a ++ 44 :: joinC (b :: l) := by simp [joinC]
/-- What a value that is right by itself has. -/
theorem oneN_open {k : Int} {t : ByteArray} {l : List JV} {m : List (ByteArray × JV)} {lev : Int} (h : oneN ⟨k, t, l, m⟩ lev = 0) :
    lev ≤ 32 ∧ 0 ≤ k ∧ k ≤ 6 ∧ (k ≠ 3 → k ≠ 4 → t = ⟨#[]⟩) ∧ (k ≠ 5 → l = []) ∧ (k ≠ 6 → m = []) ∧ (k = 3 → wrt t = true) ∧ (k = 4 → goodT t = true) ∧ (m.map Prod.fst).all goodT = true ∧ dupN [] (nms m) = false := by
  unfold oneN at h
  by_cases c0 : 32 < lev
  · rw [if_pos c0] at h; simp at h
  rw [if_neg c0] at h
  dsimp only at h
  by_cases c1 : k < 0 ∨ 6 < k
  · rw [if_pos c1] at h; simp at h
  rw [if_neg c1] at h
  by_cases c2 : alienV ⟨k, t, l, m⟩ = true
  · rw [if_pos c2] at h; simp at h
  rw [if_neg c2] at h
  by_cases c3 : k = 4 ∧ goodT t = false
  · rw [if_pos c3] at h; simp at h
  rw [if_neg c3] at h
  by_cases c4 : (m.map Prod.fst).all goodT = false
  · rw [if_pos c4] at h; simp at h
  rw [if_neg c4] at h
  by_cases c5 : dupN [] (nms m) = true
  · rw [if_pos c5] at h; simp at h
  unfold alienV at c2
  rw [decide_eq_true_eq] at c2
  dsimp only at c2
  refine ⟨by omega, by omega, by omega, ?_, ?_, ?_, ?_, ?_, by simpa using c4, by simpa using c5⟩
  · intro h3 h4
    have : t.size = 0 := by
      rcases Nat.eq_zero_or_pos t.size with h | h
      · exact h
      · exact absurd (.inl ⟨h3, h4, by omega⟩) c2
    exact ByteArray.ext (Array.eq_empty_of_size_eq_zero this)
  · intro h5
    rcases Nat.eq_zero_or_pos l.length with h | h
    · exact List.length_eq_zero_iff.1 h
    · exact absurd (.inr (.inl ⟨h5, by omega⟩)) c2
  · intro h6
    rcases Nat.eq_zero_or_pos m.length with h | h
    · exact List.length_eq_zero_iff.1 h
    · exact absurd (.inr (.inr (.inl ⟨h6, by omega⟩))) c2
  · intro h3
    cases hw : wrt t with
    | true => rfl
    | false => exact absurd (.inr (.inr (.inr ⟨h3, hw⟩))) c2
  · intro h4
    cases hg : goodT t with
    | true => rfl
    | false => exact absurd ⟨h4, hg⟩ c3
theorem okV_one {k : Int} {t : ByteArray} {l : List JV} {m : List (ByteArray × JV)} {lev : Int} (h : okV ⟨k, t, l, m⟩ lev = true) : oneN ⟨k, t, l, m⟩ lev = 0 ∧ okL l (lev + 1) = true ∧ okM m (lev + 1) = true := by
  rw [okV, Bool.and_eq_true, Bool.and_eq_true, decide_eq_true_eq] at h
  exact h
end
end

section
section
open Go.RowKit Go.PlainAid

theorem chk_ok (x : JV) : (chk x).2 = 0 ↔ okV x 1 = true := lkV_ok x 1 0

theorem quo1_len' (b : Int) : (quo1 b).length ≤ 6 := by unfold quo1; (repeat' split) <;> simp
theorem quo_le (t : ByteArray) : (quo (ints t)).length ≤ 6 * t.size + 2 := by
  have h : ∀ l : List Int, (l.map quo1).flatten.length ≤ 6 * l.length := by
    intro l
    induction l with
    | nil => simp
    | cons c l ih =>
      have := quo1_len' c
      simp only [List.map_cons, List.flatten_cons, List.length_append, List.length_cons]
      omega
  have := h (ints t)
  rw [ints_length] at this
  unfold quo
  simp only [List.length_cons, List.length_append, List.length_nil]
  omega
mutual
/-- How long a text is at most. -/
theorem putV_len : ∀ x : JV, (putV x).length + 5 ≤ 14 * totV x
  | ⟨k, t, l, m⟩ => by
    have h1 := putL_len l
    have h2 := putM_len m
    have h3 := quo_le t
    have h4 := ints_length t
    rw [putV, totV]
    (repeat' split) <;> (try simp only [List.length_cons, List.length_append, List.length_nil]) <;> omega
theorem putL_len : ∀ l : List JV, (joinC (putL l)).length + l.length ≤ 14 * totL l
  | [] => by simp [putL, joinC, totL]
  | x :: l => by
    have h1 := putV_len x
    have h2 := putL_len l
    rw [totL]
    cases l with
    | nil => simp [putL, joinC, totL]; omega
    | cons y l =>
      simp only [putL, joinC_cons] at h2 ⊢
      simp only [List.length_cons, List.length_append] at h2 ⊢
      omega
theorem putM_len : ∀ l : List (ByteArray × JV), (joinC (putM l)).length + l.length ≤ 14 * totM l
  | [] => by simp [putM, joinC, totM]
  | (n, x) :: l => by
    have h1 := putV_len x
    have h2 := putM_len l
    have h3 := quo_le n
    rw [totM]
    cases l with
    | nil => simp [putM, joinC, totM]; omega
    | cons y l =>
      obtain ⟨o, y⟩ := y
      simp only [putM, joinC_cons] at h2 ⊢
      simp only [List.length_cons, List.length_append] at h2 ⊢
      omega
end
theorem hexl_range (x : Int) (h0 : 0 ≤ x) (h1 : x < 16) : 0 ≤ hexl x ∧ hexl x ≤ 255 := by unfold hexl; split <;> omega
end
end
end Go.Proofs.YtpdpgppaoipnlaaDoor

