/- What the claim uses of the text I1. -/
import Derived.Test.YtangheahliekeaaGreatDoorVG2
import Derived.Test.YtangheahliekeaaGreatDoorVG4
import Derived.Lib.ItoaMem
set_option linter.unusedVariables false
set_option linter.unusedSimpArgs false
namespace Go.Proofs.YtangheahliekeaaGreatDoor
open Go.RowKit Go.PlainAid
open Go.Proofs.YtangheahliekeaaGreatDoorW.PrintWords hiding bt
open Go.Proofs.YtangheahliekeaaGreatDoorW.PrintMore

/-- A number's digits by a base, the first one first. -/
def digs (b n : Nat) : List Int := if h : n < b ∨ b < 2 then [hexc n] else digs b (n / b) ++ [hexc ((n % b : Nat) : Int)]
termination_by n
decreasing_by exact Nat.div_lt_self (by omega) (by omega)
theorem digs_small (b n : Nat) (h : n < b) : digs b n = [hexc n] := by rw [digs, dif_pos (.inl h)]
theorem digs_great (b n : Nat) (h : b ≤ n) (h2 : 2 ≤ b) : digs b n = digs b (n / b) ++ [hexc ((n % b : Nat) : Int)] := by rw [digs, dif_neg (by omega)]
theorem digs_range (b : Nat) (h2 : 2 ≤ b) (h16 : b ≤ 16) (n : Nat) : ∀ x ∈ digs b n, 0 ≤ x ∧ x ≤ 255 := by
  induction n using Nat.strongRecOn with
  | _ n ih =>
    intro x hx
    by_cases h : n < b
    · rw [digs_small b n h, List.mem_singleton] at hx
      subst hx
      exact hexc_range _ (by omega) (by omega)
    · rw [digs_great b n (by omega) h2] at hx
      rcases List.mem_append.1 hx with hx | hx
      · exact ih _ (Nat.div_lt_self (by omega) (by omega)) x hx
      · rw [List.mem_singleton] at hx
        subst hx
        have := Nat.mod_lt n (show b > 0 by omega)
        exact hexc_range _ (by omega) (by omega)
theorem digs_len (b : Nat) (h2 : 2 ≤ b) : ∀ (j n : Nat), n < b ^ (j + 1) → (digs b n).length ≤ j + 1
  | 0, n, h => by
    rw [digs_small b n (by simpa using h)]
    simp
  | j + 1, n, h => by
    by_cases h1 : n < b
    · rw [digs_small b n h1]; simp
    · rw [digs_great b n (by omega) h2, List.length_append]
      have := digs_len b h2 j (n / b) (by
        rw [Nat.div_lt_iff_lt_mul (by omega)]
        rw [Nat.pow_succ] at h
        exact h)
      simp
      omega
theorem digs_dec (n : Nat) : (Lib.decDigits n).map (fun c => (c.toNat : Int)) = digs 10 n := by
  induction n using Nat.strongRecOn with
  | _ n ih =>
    by_cases h : n < 10
    · rw [digs_small 10 n h, Lib.decDigits, dif_pos h]
      simp only [List.map_cons, List.map_nil, hexc]
      rw [if_pos (by omega)]
      congr 1
      have : (UInt8.ofNat (48 + n)).toNat = 48 + n := by
        rw [UInt8.toNat_ofNat']; omega
      omega
    · rw [digs_great 10 n (by omega) (by omega), Lib.decDigits, dif_neg h, List.map_append, ih _ (Nat.div_lt_self (by omega) (by omega))]
      congr 1
      simp only [List.map_cons, List.map_nil, hexc]
      have h10 := Nat.mod_lt n (show 10 > 0 by omega)
      rw [if_pos (by omega)]
      congr 1
      have : (UInt8.ofNat (48 + n % 10)).toNat = 48 + n % 10 := by
        rw [UInt8.toNat_ofNat']; omega
      omega
theorem dec_text (n : Nat) : (⟨(Lib.decDigits n).toArray⟩ : ByteArray) = strOfNums (digs 10 n) := by
  apply ints_inj
  rw [ints_nums _ (digs_range 10 (by omega) (by omega) n), ← digs_dec]
  rfl

end Go.Proofs.YtangheahliekeaaGreatDoor

