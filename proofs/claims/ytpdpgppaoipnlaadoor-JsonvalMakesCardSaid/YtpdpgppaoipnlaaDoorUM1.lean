/- What the claim uses of the text M1. -/
import Derived.Test.YtpdpgppaoipnlaaDoorUT1
import Derived.Lib.ItoaMem
set_option linter.unusedVariables false
set_option linter.unusedSimpArgs false
namespace Go.Proofs.YtpdpgppaoipnlaaDoor
open Go.RowKit Go.PlainAid
open Go.Proofs.YtpdpgppaoipnlaaDoor.PAll
open Go.Proofs.YtpdpgppaoipnlaaDoorW.PrintWords hiding bt
open Go.Proofs.YtpdpgppaoipnlaaDoorW.PrintMore

/-- The text of a number's decimal digits. -/
def dgt (u : Nat) : ByteArray := ⟨(Lib.decDigits u).toArray⟩
theorem dg1 (n : Nat) : strOfNums [((n % 10 : Nat) : Int) + 48] = ⟨#[UInt8.ofNat (48 + n % 10)]⟩ := by
  apply ByteArray.ext
  apply Array.ext'
  rw [strOfNums_data, show ((n % 10 : Nat) : Int) + 48 = ((48 + n % 10 : Nat) : Int) by omega]
  simp only [List.map_cons, List.map_nil, Int.toNat_natCast]
theorem dig_step (k n : Nat) (acc : ByteArray) (hn : n ≤ 9223372036854775807) (ha : acc.size ≤ 1000) :
    eponymref03_Digits.j1 (k + 1) n 10 acc true = eponymref03_Digits.l0 k ((n / 10 : Nat) : Int) 10 (⟨#[UInt8.ofNat (48 + n % 10)]⟩ ++ acc) := by
  have h1 : Int.tmod (n : Int) 10 = ((n % 10 : Nat) : Int) := by rw [Int.tmod_eq_emod_of_nonneg (by omega)]; omega
  have h2 : Int.tdiv (n : Int) 10 = ((n / 10 : Nat) : Int) := by rw [Int.tdiv_eq_ediv_of_nonneg (by omega)]; omega
  have h3 : ((n % 10 : Nat) : Int) % 256 = ((n % 10 : Nat) : Int) := by omega
  have h4 : (((n % 10 : Nat) : Int) + 48) % 256 = ((n % 10 : Nat) : Int) + 48 := by omega
  rw [eponymref03_Digits.j1, if_pos rfl, if_neg (by omega), h1, h2, h3, if_pos (by omega), h4]
  simp only [Option.bind_some]
  rw [dg1, if_pos (by
    have : (⟨#[UInt8.ofNat (48 + n % 10)]⟩ : ByteArray).size = 1 := rfl
    omega), show wrap64 ((n / 10 : Nat) : Int) = ((n / 10 : Nat) : Int) by unfold wrap64; omega]
theorem size_cons (b : UInt8) (acc : ByteArray) : ((⟨#[b]⟩ : ByteArray) ++ acc).size = acc.size + 1 := by
  rw [ByteArray.size_append]
  have : (⟨#[b]⟩ : ByteArray).size = 1 := rfl
  omega
theorem dig_end (k : Nat) (acc : ByteArray) (b : UInt8) : eponymref03_Digits.l0 (k + 2) 0 10 (⟨#[b]⟩ ++ acc) = some (⟨#[b]⟩ ++ acc) := by
  rw [eponymref03_Digits.l0, if_neg (by omega)]
  have : ((⟨#[b]⟩ ++ acc : ByteArray).toList == ([] : List UInt8)) = false := by
    rw [beq_eq_false_iff_ne]
    intro h
    have h2 := congrArg List.length h
    rw [ByteArray.toList_eq, Array.length_toList] at h2
    have h3 := size_cons b acc
    rw [ByteArray.size] at h3
    simp at h2 h3
  rw [this, eponymref03_Digits.j1, if_neg (by simp)]
theorem dgt_ten (n : Nat) (h : 10 ≤ n) : dgt n = dgt (n / 10) ++ ⟨#[UInt8.ofNat (48 + n % 10)]⟩ := by
  apply ByteArray.ext
  apply Array.ext'
  rw [ByteArray.data_append]
  unfold dgt
  rw [Lib.decDigits, dif_neg (by omega)]
  simp
theorem dgt_one (n : Nat) (h : n < 10) : dgt n = ⟨#[UInt8.ofNat (48 + n % 10)]⟩ := by
  unfold dgt
  rw [Lib.decDigits, dif_pos h, Nat.mod_eq_of_lt h]
theorem app_assoc (a b c : ByteArray) : a ++ b ++ c = a ++ (b ++ c) := ByteArray.append_assoc
theorem dig_go : ∀ (j n : Nat) (acc : ByteArray), n < 10 ^ j → 1 ≤ n → n ≤ 9223372036854775807 → acc.size + j ≤ 1000 → ∃ k, eponymref03_Digits.l0 k n 10 acc = some (dgt n ++ acc)
  | 0, n, acc, h, h1, _, _ => by simp at h; omega
  | j + 1, n, acc, h, h1, h2, h3 => by
    by_cases h10 : n < 10
    · refine ⟨4, ?_⟩
      rw [eponymref03_Digits.l0, if_pos (by omega), dig_step _ _ _ h2 (by omega), show n / 10 = 0 by omega]
      rw [show ((0 : Nat) : Int) = 0 from rfl, dig_end, dgt_one n h10]
    · obtain ⟨k, hk⟩ := dig_go j (n / 10) (⟨#[UInt8.ofNat (48 + n % 10)]⟩ ++ acc) (by rw [Nat.pow_succ] at h; omega) (by omega) (by omega) (by rw [size_cons]; omega)
      refine ⟨k + 2, ?_⟩
      rw [eponymref03_Digits.l0, if_pos (by omega), dig_step _ _ _ h2 (by omega), hk, dgt_ten n (by omega), app_assoc]
theorem dig_all (n : Nat) (h : n ≤ 9223372036854775807) : ∃ k, eponymref03_Digits.f k n 10 = some (dgt n) := by
  unfold eponymref03_Digits.f
  have he : ∀ a : ByteArray, a ++ (⟨#[]⟩ : ByteArray) = a := fun a => by
    apply ByteArray.ext
    rw [ByteArray.data_append]
    simp
  by_cases h0 : n = 0
  · subst h0
    refine ⟨4, ?_⟩
    rw [eponymref03_Digits.l0, if_neg (by omega), show ((⟨#[]⟩ : ByteArray).toList == ([] : List UInt8)) = true by rw [ByteArray.toList_eq]; rfl]
    rw [dig_step 2 0 _ (by omega) (by decide)]
    rw [show ((0 / 10 : Nat) : Int) = 0 from rfl, dig_end, he, dgt_one 0 (by omega)]
  · obtain ⟨k, hk⟩ := dig_go 19 n ⟨#[]⟩ (by omega) (by omega) h (by decide)
    exact ⟨k, by rw [hk, he]⟩
theorem Digits_any (n : Nat) (w : World) (h : n ≤ 9223372036854775807) :
    Calls Tryd.prog 28 #[.int .i64 n, .int .i64 10] w fun e w' => e = .returned (.string (dgt n)) ∧ Hid (Below w.heap.size w w') := by
  obtain ⟨k, hk⟩ := dig_all n h
  exact eponymref03_Digits.calls k n 10 (dgt n) w hk
/-- A number's text, by the document. -/
def numT (n : Int) : ByteArray := ⟨(Lib.itoa n).toArray⟩
theorem numT_pos (n : Int) (h : 0 ≤ n) : numT n = dgt n.toNat := by
  obtain ⟨u, rfl⟩ : ∃ u : Nat, n = u := ⟨n.toNat, by omega⟩
  unfold numT dgt
  rw [Lib.itoa_nonneg, Int.toNat_natCast]
theorem numT_neg (u : Nat) (h : 1 ≤ u) : numT (-(u : Int)) = ⟨#[45]⟩ ++ dgt u := by
  unfold numT dgt
  rw [Lib.itoa_neg u h]
  apply ByteArray.ext
  apply Array.ext'
  rw [ByteArray.data_append]
  simp
theorem numT_small (u : Nat) (h : 1 ≤ u) (h2 : u < 10) : numT (-(u : Int)) = ⟨#[45]⟩ ++ dgt (u % 10) := by rw [numT_neg u h, Nat.mod_eq_of_lt h2]
theorem numT_great (u : Nat) (h : 10 ≤ u) : numT (-(u : Int)) = ⟨#[45]⟩ ++ dgt (u / 10) ++ dgt (u % 10) := by
  rw [numT_neg u (by omega), dgt_ten u h, app_assoc, dgt_one (u % 10) (by omega), Nat.mod_mod]
end Go.Proofs.YtpdpgppaoipnlaaDoor

