/- What the functions of pct come to, without Go and memory. -/
import Derived.PlainAid
namespace Go.Proofs.YtfcfehiijainpaaDoor
open Go.PlainAid

/-- A hexadecimal digit's number. -/
def hexd (b : Int) : Int := if 48 ≤ b ∧ b ≤ 57 then b - 48 else if 97 ≤ b ∧ b ≤ 102 then b - 87 else if 65 ≤ b ∧ b ≤ 70 then b - 55 else -1
theorem hexd_le (b : Int) : -1 ≤ hexd b ∧ hexd b ≤ 15 := by unfold hexd; omega
/-- What a text stands for: bytes, where each stands, or a place and a number. -/
def uesc (s : ByteArray) : Nat → Int → List Int → List Int → List Int × List Int × Int × Int
  | 0, _, bs, ps => (bs, ps, 0, 0)
  | k + 1, at_, bs, ps =>
    if (s.size : Int) ≤ at_ then (bs, ps, 0, 0)
    else if bt s at_.toNat ≠ 37 then uesc s k (at_ + 1) (bs ++ [bt s at_.toNat]) (ps ++ [at_])
    else if (s.size : Int) - at_ < 3 then ([], [], at_, 2)
    else if hexd (bt s (at_ + 1).toNat) < 0 ∨ hexd (bt s (at_ + 2).toNat) < 0 then ([], [], at_, 1)
    else uesc s k (at_ + 3) (bs ++ [16 * hexd (bt s (at_ + 1).toNat) + hexd (bt s (at_ + 2).toNat)]) (ps ++ [at_])
def ue (s : ByteArray) : List Int × List Int × Int × Int := uesc s s.size 0 [] []
theorem uesc_bad (s : ByteArray) : ∀ (k : Nat) (at_ : Int) (bs ps : List Int), (uesc s k at_ bs ps).2.2.2 ≠ 0 → (uesc s k at_ bs ps).1 = [] ∧ (uesc s k at_ bs ps).2.1 = []
  | 0, _, _, _, h => absurd rfl h
  | k + 1, at_, bs, ps, h => by
    unfold uesc at h ⊢
    split
    · rename_i c; rw [if_pos c] at h; exact absurd rfl h
    · rename_i c; rw [if_neg c] at h
      split
      · rename_i c2; rw [if_pos c2] at h; exact uesc_bad s k _ _ _ h
      · rename_i c2; rw [if_neg c2] at h
        split
        · exact ⟨rfl, rfl⟩
        · rename_i c3; rw [if_neg c3] at h
          split
          · exact ⟨rfl, rfl⟩
          · rename_i c4; rw [if_neg c4] at h; exact uesc_bad s k _ _ _ h
theorem ue_bad (s : ByteArray) (h : (ue s).2.2.2 ≠ 0) : (ue s).1 = [] ∧ (ue s).2.1 = [] := uesc_bad s _ _ _ _ h
end Go.Proofs.YtfcfehiijainpaaDoor
