/- What the claim uses of the text G0. -/
import Derived.Test.YtangheahliekeaaGreatDoorProg
set_option linter.unusedVariables false
set_option linter.unusedSimpArgs false
namespace Go.Proofs.YtangheahliekeaaGreatDoor

theorem mod_pow_zero (b : Nat) : ∀ m, b % 2 ^ m = 0 ↔ ∀ s, s < m → b / 2 ^ s % 2 = 0
  | 0 => by simp [Nat.mod_one]
  | m + 1 => by
    have ih := mod_pow_zero b m
    have h : b % 2 ^ (m + 1) = b % 2 ^ m + 2 ^ m * (b / 2 ^ m % 2) := by rw [Nat.pow_succ, Nat.mod_mul]
    have hp : 0 < 2 ^ m := Nat.pow_pos (by omega)
    constructor
    · intro h0 s hs
      rw [h] at h0
      have h1 : b % 2 ^ m = 0 := by omega
      have h2 : 2 ^ m * (b / 2 ^ m % 2) = 0 := by omega
      rcases Nat.lt_or_ge s m with h3 | h3
      · exact ih.1 h1 s h3
      · obtain rfl : s = m := by omega
        rcases Nat.mul_eq_zero.1 h2 with h4 | h4
        · omega
        · exact h4
    · intro h0
      rw [h, ih.2 (fun s hs => h0 s (by omega)), h0 m (by omega), Nat.mul_zero]
/-- A byte's bit, the highest first. -/
def bitB (b : Nat) (t : Nat) : Nat := b / 2 ^ (7 - t) % 2
theorem byte_mask (b left : Nat) (hl : left ≤ 8) : b % 2 ^ (8 - left) = 0 ↔ ∀ t, left ≤ t → t < 8 → bitB b t = 0 := by
  rw [mod_pow_zero]
  constructor
  · intro h t h1 h2
    exact h (7 - t) (by omega)
  · intro h s hs
    have := h (7 - s) (by omega) (by omega)
    unfold bitB at this
    rwa [show 7 - (7 - s) = s by omega] at this
/-- An address's bit. -/
def bitA (f : Nat → Nat) (j : Nat) : Nat := bitB (f (j / 8)) (j % 8)
/-- A byte, without what is behind so many bits. -/
def maskB (b : Nat) (left : Int) : Nat := if 8 ≤ left then b else if 0 < left then b - b % 2 ^ (8 - left.toNat) else 0
theorem maskB_eq (b : Nat) (left : Int) (hb : b < 256) : maskB b left = b ↔ ∀ t : Nat, left ≤ (t : Int) → t < 8 → bitB b t = 0 := by
  unfold maskB
  by_cases h8 : 8 ≤ left
  · rw [if_pos h8]
    exact ⟨fun _ t h1 h2 => by omega, fun _ => rfl⟩
  rw [if_neg h8]
  by_cases h0 : 0 < left
  · rw [if_pos h0]
    obtain ⟨l, rfl⟩ : ∃ l : Nat, left = l := ⟨left.toNat, by omega⟩
    rw [Int.toNat_natCast]
    have hle := Nat.mod_le b (2 ^ (8 - l))
    have := byte_mask b l (by omega)
    constructor
    · intro h t h1 h2
      exact this.1 (by omega) t (by omega) h2
    · intro h
      have := this.2 (fun t h1 h2 => h t (by omega) h2)
      omega
  · rw [if_neg h0]
    have h := byte_mask b 0 (by omega)
    rw [show 8 - 0 = 8 from rfl, Nat.mod_eq_of_lt (show b < 2 ^ 8 by omega)] at h
    constructor
    · intro e t h1 h2
      exact h.1 e.symm t (by omega) h2
    · intro e
      exact (h.2 (fun t _ h2 => e t (by omega) h2)).symm
/-- An address is its mask if no bit behind is set. -/
theorem mask_all (f : Nat → Nat) (hf : ∀ i, i < 16 → f i < 256) (bits : Int) : (∀ i : Nat, i < 16 → maskB (f i) (bits - 8 * i) = f i) ↔ ∀ j : Nat, bits ≤ j → j < 128 → bitA f j = 0 := by
  constructor
  · intro h j h1 h2
    unfold bitA
    exact (maskB_eq _ _ (hf _ (by omega))).1 (h (j / 8) (by omega)) (j % 8) (by omega) (by omega)
  · intro h i hi
    rw [maskB_eq _ _ (hf i hi)]
    intro t h1 h2
    have := h (8 * i + t) (by omega) (by omega)
    unfold bitA at this
    rwa [show (8 * i + t) / 8 = i by omega, show (8 * i + t) % 8 = t by omega] at this
end Go.Proofs.YtangheahliekeaaGreatDoor

