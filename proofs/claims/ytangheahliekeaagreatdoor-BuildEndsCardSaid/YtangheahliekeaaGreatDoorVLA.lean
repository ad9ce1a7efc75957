/- What the claim uses of the text LA. -/
import Derived.Test.YtangheahliekeaaGreatDoorVG7
set_option linter.unusedVariables false
set_option linter.unusedSimpArgs false
namespace Go.Proofs.YtangheahliekeaaGreatDoor
open Go.RowKit Go.PlainAid
open Go.Proofs.YtangheahliekeaaGreatDoorW.PrintWords hiding bt
open Go.Proofs.YtangheahliekeaaGreatDoorW.PrintMore

/-- How many of a byte's bits stand ahead of a place. -/
def loF (m i : Nat) : Nat := min (m - 8 * i) 8
/-- An address whose bits from m to n are 1. -/
def endF (f : Nat → Nat) (m n : Nat) (i : Nat) : Nat := f i + 2 ^ (8 - loF m i) - 2 ^ (8 - loF n i)
theorem endF_start (f : Nat → Nat) (m : Nat) : endF f m m = f := by
  funext i
  unfold endF
  omega
theorem or_fin : ∀ (b : Fin 256) (lo r : Fin 8), b.val % 2 ^ (8 - lo.val) = 0 → lo.val ≤ r.val → (b.val + 2 ^ (8 - lo.val) - 2 ^ (8 - r.val)) ||| 2 ^ (7 - r.val) = b.val + 2 ^ (8 - lo.val) - 2 ^ (7 - r.val) ∧ (b.val + 2 ^ (8 - lo.val) - 2 ^ (8 - r.val)) + 2 ^ (7 - r.val) = b.val + 2 ^ (8 - lo.val) - 2 ^ (7 - r.val) ∧ b.val + 2 ^ (8 - lo.val) - 2 ^ (7 - r.val) < 256 ∧ b.val + 2 ^ (8 - lo.val) - 2 ^ (8 - r.val) < 256 := by decide +kernel
theorem bit_fin : ∀ (b : Fin 256) (lo : Fin 9) (t : Fin 8), b.val % 2 ^ (8 - lo.val) = 0 → t.val < lo.val → bitB (b.val + 2 ^ (8 - lo.val) - 1) t.val = bitB b.val t.val := by decide +kernel
theorem low_zero (f : Nat → Nat) (m i : Nat) (hi : i < 16) (hz : ∀ j : Nat, m ≤ j → j < 128 → bitA f j = 0) : f i % 2 ^ (8 - loF m i) = 0 := by
  rw [byte_mask _ _ (by unfold loF; omega)]
  intro t h0 h1
  have h := hz (8 * i + t) (by unfold loF at h0; omega) (by omega)
  unfold bitA at h
  rwa [show (8 * i + t) / 8 = i by omega, show (8 * i + t) % 8 = t by omega] at h
theorem endF_other (f : Nat → Nat) (m n i : Nat) (hi : i ≠ n / 8) : endF f m n i = endF f m (n + 1) i := by
  have h : loF n i = loF (n + 1) i := by unfold loF; omega
  unfold endF
  rw [h]
theorem endF_fin (f : Nat → Nat) (hf : ∀ i, i < 16 → f i < 256) (m n : Nat) (hmn : m ≤ n) (hn : n < 128) (hz : ∀ j : Nat, m ≤ j → j < 128 → bitA f j = 0) :
    endF f m n (n / 8) ||| 2 ^ (7 - n % 8) = endF f m (n + 1) (n / 8) ∧ endF f m n (n / 8) + 2 ^ (7 - n % 8) = endF f m (n + 1) (n / 8) ∧ endF f m (n + 1) (n / 8) < 256 ∧ endF f m n (n / 8) < 256 := by
  have h := or_fin ⟨f (n / 8), hf _ (by omega)⟩ ⟨loF m (n / 8), by unfold loF; omega⟩ ⟨n % 8, by omega⟩ (low_zero f m _ (by omega) hz) (by show loF m (n / 8) ≤ n % 8; unfold loF; omega)
  have h1 : 8 - loF n (n / 8) = 8 - n % 8 := by unfold loF; omega
  have h2 : 8 - loF (n + 1) (n / 8) = 7 - n % 8 := by unfold loF; omega
  unfold endF
  rw [h1, h2]
  exact h
theorem endF_upd (f : Nat → Nat) (m n : Nat) : (fun i => if i = n / 8 then endF f m (n + 1) (n / 8) else endF f m n i) = endF f m (n + 1) := by
  funext i
  by_cases h : i = n / 8
  · rw [if_pos h, h]
  · rw [if_neg h, endF_other f m n i h]
theorem endF_lt (f : Nat → Nat) (hf : ∀ i, i < 16 → f i < 256) (m : Nat) (hz : ∀ j : Nat, m ≤ j → j < 128 → bitA f j = 0) : ∀ n, m ≤ n → n ≤ 128 → ∀ i, i < 16 → endF f m n i < 256 := by
  intro n
  induction n with
  | zero =>
    intro hn _ i hi
    have h0 : m = 0 := by omega
    subst h0
    rw [endF_start]
    exact hf i hi
  | succ n ih =>
    intro hn h i hi
    rcases Nat.lt_or_ge n m with hlt | hge
    · obtain rfl : m = n + 1 := by omega
      rw [endF_start]; exact hf i hi
    · by_cases hin : i = n / 8
      · subst hin; exact (endF_fin f hf m n hge (by omega) hz).2.2.1
      · rw [← endF_other f m n i hin]; exact ih hge (by omega) i hi
theorem endF_bits (f : Nat → Nat) (hf : ∀ i, i < 16 → f i < 256) (m W : Nat) (hW : W % 8 = 0) (hm : m ≤ W) (h128 : W ≤ 128) (hz : ∀ j : Nat, m ≤ j → j < 128 → bitA f j = 0) (i : Nat) (hi : i < m) : bitA (endF f m W) i = bitA f i := by
  have h := bit_fin ⟨f (i / 8), hf _ (by omega)⟩ ⟨loF m (i / 8), by unfold loF; omega⟩ ⟨i % 8, by omega⟩ (low_zero f m _ (by omega) hz) (by show i % 8 < loF m (i / 8); unfold loF; omega)
  have h1 : 8 - loF W (i / 8) = 0 := by unfold loF; omega
  unfold bitA endF
  rw [h1]
  exact h
theorem pow_shr : ∀ r : Nat, r ≤ 7 → (128 : Int) / 2 ^ r = ((2 ^ (7 - r) : Nat) : Int)
  | 0, _ | 1, _ | 2, _ | 3, _ | 4, _ | 5, _ | 6, _ | 7, _ => rfl
  | r + 8, h => by omega
end Go.Proofs.YtangheahliekeaaGreatDoor

