/- What the claim uses of the text I6. -/
import Derived.Test.YtngokkebjadoiaaGreatDoorVI5
set_option linter.unusedVariables false
set_option linter.unusedSimpArgs false
namespace Go.Proofs.YtngokkebjadoiaaGreatDoor
open Go.RowKit Go.PlainAid
open Go.Proofs.YtngokkebjadoiaaGreatDoorW.PrintWords hiding bt
open Go.Proofs.YtngokkebjadoiaaGreatDoorW.PrintMore
open Go.Proofs.YtngokkebjadoiaaGreatDoor.PAll

theorem tw_in : ∀ (m : List Nat) (n : Nat), n < (m.takeWhile (· == 0)).length → m[n]? = some 0
  | [], n, h => by simp at h
  | x :: m, n, h => by
    by_cases hx : x = 0
    · subst hx
      cases n with
      | zero => rfl
      | succ n =>
        rw [List.takeWhile_cons_of_pos (by simp), List.length_cons] at h
        exact tw_in m n (by omega)
    · rw [List.takeWhile_cons_of_neg (by simpa using hx)] at h
      simp at h
theorem tw_out : ∀ (m : List Nat), (m.takeWhile (· == 0)).length = m.length ∨ ∃ x, m[(m.takeWhile (· == 0)).length]? = some x ∧ x ≠ 0
  | [] => .inl rfl
  | x :: m => by
    by_cases hx : x = 0
    · subst hx
      rw [List.takeWhile_cons_of_pos (by simp), List.length_cons]
      rcases tw_out m with h | ⟨y, h1, h2⟩
      · exact .inl (by rw [List.length_cons, h])
      · exact .inr ⟨y, by rw [List.getElem?_cons_succ]; exact h1, h2⟩
    · rw [List.takeWhile_cons_of_neg (by simpa using hx)]
      exact .inr ⟨x, rfl, hx⟩
theorem run0_in (l : List Nat) (i n : Nat) (h : n < run0 l i) : l[i + n]? = some 0 := by
  have := tw_in (l.drop i) n h
  rwa [List.getElem?_drop] at this
theorem run0_out (l : List Nat) (i : Nat) (hi : i ≤ l.length) : i + run0 l i = l.length ∨ ∃ x, l[i + run0 l i]? = some x ∧ x ≠ 0 := by
  unfold run0
  rcases tw_out (l.drop i) with h | ⟨x, h1, h2⟩
  · left
    rw [h, List.length_drop]
    omega
  · right
    rw [List.getElem?_drop] at h1
    exact ⟨x, h1, h2⟩
theorem rd_zs (l : List Nat) (i x : Nat) (h : l[i]? = some x) : rd (zsOf l) (i : Int) = x := by
  unfold rd zsOf
  rw [Int.toNat_natCast, List.getD_eq_getElem?_getD, List.getElem?_map, h]
  rfl
theorem gap_in (l : List Nat) (hl : l.length ≤ 1000) (i : Nat) (hi : i < l.length) (f lg : Int) (k : Nat) : ∀ m n : Nat, n + m = run0 l i →
    ip_gap.l1 (k + m + 1) (zsOf l) f lg i n = if (run0 l i : Int) > mx lg 1 then ip_gap.l0 k (zsOf l) i (run0 l i) ((i + 1 : Nat) : Int) else ip_gap.l0 k (zsOf l) f lg ((i + 1 : Nat) : Int)
  | 0, n, h => by
    have hr := run0_le l i (by omega)
    have e1 : wrap64 ((i : Int) + n) = ((i + n : Nat) : Int) := by rw [w64 (by omega) (by omega)]; omega
    have e2 : wrap64 ((i : Int) + 1) = ((i + 1 : Nat) : Int) := by rw [w64 (by omega) (by omega)]; omega
    have hn : n = run0 l i := by omega
    rw [Nat.add_zero, ip_gap.l1, e1, e2, zsOf_length]
    rcases run0_out l i (by omega) with h | ⟨x, h1, h2⟩
    · rw [if_neg (by omega), hn]
    · have hlt := (List.getElem?_eq_some_iff.1 h1).1
      rw [if_pos (by omega), if_pos (by omega), hn, rd_zs l _ x h1, if_neg (by omega)]
  | m + 1, n, h => by
    have hr := run0_le l i (by omega)
    have e1 : wrap64 ((i : Int) + n) = ((i + n : Nat) : Int) := by rw [w64 (by omega) (by omega)]; omega
    have e3 : wrap64 ((n : Int) + 1) = ((n + 1 : Nat) : Int) := by rw [w64 (by omega) (by omega)]; omega
    rw [show k + (m + 1) + 1 = (k + m + 1) + 1 by omega, ip_gap.l1, e1, zsOf_length, if_pos (by omega), if_pos (by omega), rd_zs l _ 0 (run0_in l i n (by omega)), if_pos (show ((0 : Nat) : Int) = 0 from rfl), e3]
    exact gap_in l hl i hi f lg k m (n + 1) (by omega)
/-- As the program has it: (0, 0) for none. -/
def gapP (s : Nat × Nat) : Nat × Nat := if s.2 = 1 then (0, 0) else s
theorem gap_go (l : List Nat) (hl : l.length ≤ 1000) : ∀ m i : Nat, i + m = l.length → ∃ k, ip_gap.l0 k (zsOf l) (gapP (gapS l i)).1 (gapP (gapS l i)).2 i = some (((gapP (gapS l l.length)).1 : Int), ((gapP (gapS l l.length)).2 : Int))
  | 0, i, h => ⟨1, by
    rw [ip_gap.l0, zsOf_length, if_neg (by omega), show i = l.length by omega]⟩
  | m + 1, i, h => by
    obtain ⟨k, hk⟩ := gap_go l hl m (i + 1) (by omega)
    refine ⟨k + run0 l i + 1 + 1, ?_⟩
    rw [ip_gap.l0, zsOf_length, if_pos (by omega)]
    have := gap_in l hl i (by omega) (gapP (gapS l i)).1 (gapP (gapS l i)).2 k (run0 l i) 0 (by omega)
    rw [show ((0 : Nat) : Int) = 0 from rfl] at this
    rw [this]
    have hs := gapS_is l i (by omega)
    have hm : mx ((gapP (gapS l i)).2 : Int) 1 = ((gapS l i).2 : Int) := by
      unfold gapP mx
      rcases hs with h | h
      · rw [h]; simp
      · rw [if_neg (show ¬ (gapS l i).2 = 1 by omega), if_neg (show ¬ ((gapS l i).2 : Int) < 1 by omega)]
    rw [hm]
    rw [gapS] at hk
    by_cases hc : (gapS l i).2 < run0 l i
    · rw [if_pos (by omega)]
      rw [if_pos hc] at hk
      have h1 : 1 ≤ (gapS l i).2 := by
        rcases hs with h | h
        · rw [h]; exact Nat.le_refl 1
        · omega
      unfold gapP at hk ⊢
      rw [if_neg (show ¬ (i, run0 l i).2 = 1 by show ¬ run0 l i = 1; omega)] at hk
      exact hk
    · rw [if_neg (by omega)]
      rw [if_neg hc] at hk
      exact hk
theorem gap_any (A : Option Addr) (c : Nat) (l : List Nat) (w : World) (hC : (Kd.int .i64).C w A l.length (zsOf l)) (hc : l.length ≤ c) (hl : l.length ≤ 1000) :
    Calls Tryz.prog 49 #[.slice A l.length c] w fun e w' => e = .returned (.tuple #[.int .i64 (gapP (gapS l l.length)).1, .int .i64 (gapP (gapS l l.length)).2]) ∧ Hid (Below w.heap.size w w') := by
  obtain ⟨k, hk⟩ := gap_go l hl l.length 0 (by omega)
  have h := ip_gap.calls k A c (zsOf l) _ _ w (by rw [zsOf_length]; exact hC) (by rw [zsOf_length]; exact hc) hk
  rw [zsOf_length] at h
  exact h
end Go.Proofs.YtngokkebjadoiaaGreatDoor

