/- The reference's Plain, Escape, Split and Text (as printed) come to what is told. -/
import Derived.Test.YtkaepipnbgdoeaaDoorPAllx
import Derived.Test.YtkaepipnbgdoeaaDoorRef
import Derived.Test.YtkaepipnbgdoeaaDoorPctE
set_option linter.unusedVariables false
set_option linter.unusedSimpArgs false
namespace Go.Proofs.YtkaepipnbgdoeaaDoor
open Go.RowKit Go.Proofs.YtkaepipnbgdoeaaDoorW.PrintWords PAll

theorem up {α : Type} {g : Nat → Option α} (hm : ∀ k, LeO (g k) (g (k + 1))) {a b : Nat} {r : α} (h : g a = some r) (hab : a ≤ b) : g b = some r := by
  obtain ⟨d, rfl⟩ := Nat.exists_eq_add_of_le hab
  induction d with
  | zero => exact h
  | succ d ih => exact hm _ _ (ih (by omega))

theorem plain_f (b : Int) (h0 : 0 ≤ b) (h1 : b ≤ 255) : eponymref02_Plain.f b = some (plainB b.toNat) := by
  obtain ⟨n, rfl⟩ := Int.eq_ofNat_of_zero_le h0
  rw [Int.toNat_natCast]
  unfold eponymref02_Plain.f
  (repeat' split) <;> (congr 1; rw [Bool.eq_iff_iff]; simp [plainB]; omega)

theorem hex_f (n : Int) (h0 : 0 ≤ n) (h1 : n ≤ 15) : eponymref02_hex.f n = some (hexc n) := by
  unfold eponymref02_hex.f hexc
  split <;> (congr 1; omega)

theorem has_l (keep : ByteArray) (hk : keep.size ≤ 1000000) (b : Int) (k : Nat) : ∀ (n i : Nat), i + n = keep.size → eponymref02_has.l0 (k + n + 1) keep b i = some (decide (b ∈ (ints keep).drop i)) := by
  intro n
  induction n with
  | zero =>
    intro i h
    rw [eponymref02_has.l0, if_neg (by omega), List.drop_of_length_le (by rw [ints_length]; omega)]
    simp
  | succ n ih =>
    intro i h
    have hi : i < (ints keep).length := by rw [ints_length]; omega
    have e : (ints keep)[i] = bt keep i := by rw [btP, Int.toNat_natCast, bt_ints, List.getD_eq_getElem?_getD, List.getElem?_eq_getElem hi]; rfl
    rw [show k + (n + 1) + 1 = (k + n + 1) + 1 by omega, eponymref02_has.l0, if_pos (by omega), if_pos (by omega), List.drop_eq_getElem_cons hi, e]
    by_cases hb : bt keep i = b
    · rw [if_pos hb, hb]; simp
    · rw [if_neg hb, w64 (by omega) (by omega), show (i : Int) + 1 = ((i + 1 : Nat) : Int) by omega, ih (i + 1) (by omega)]
      congr 1
      rw [Bool.eq_iff_iff]
      simp [show ¬ b = bt keep i from fun h => hb h.symm]
theorem has_f (keep : ByteArray) (hk : keep.size ≤ 1000000) (b : Int) (h0 : 0 ≤ b) (k : Nat) (hkk : keep.size + 1 ≤ k) : eponymref02_has.f k keep b = some (bin keep b.toNat) := by
  unfold eponymref02_has.f
  have := has_l keep hk b (k - keep.size - 1) keep.size 0 (by omega)
  rw [show k - keep.size - 1 + keep.size + 1 = k by omega] at this
  simp only [List.drop_zero] at this
  rw [show ((0 : Nat) : Int) = 0 from rfl] at this
  rw [this]
  unfold bin
  rw [Int.toNat_of_nonneg h0]

theorem escape_j (s keep : ByteArray) (hs : s.size ≤ 100000) (out : List Int) (i : Nat) (st : Bool) (k : Nat) (hi : i < s.size) (ho : out.length ≤ 3 * i) (r : Option ByteArray)
    (h : eponymref02_Escape.l0 k s keep (strOfNums (out ++ if st = true then [bt s i] else [37, hexc (bt s i / 16), hexc (bt s i % 16)])) (i + 1 : Nat) = r) :
    eponymref02_Escape.j1 (k + 1) s keep (strOfNums out) i (bt s i) st = r := by
  have r0 := bt_range s i
  rw [eponymref02_Escape.j1]
  have e1 : wrap64 ((i : Int) + 1) = ((i + 1 : Nat) : Int) := by rw [w64 (by omega) (by omega)]; omega
  cases st with
  | true =>
    rw [if_pos rfl, e1, if_pos (by omega), if_pos (by omega), if_pos (by omega)]
    have hx := ext_one s i (by omega) (by omega)
    rw [show ((i : Int) + 1).toNat = ((i + 1 : Nat) : Int).toNat by omega] at hx
    rw [hx, if_pos (by rw [nums_size, nums_size]; simp; omega), nums_append']
    simpa using h
  | false =>
    have d1 : Int.tdiv (bt s i) 16 % 256 = bt s i / 16 := by rw [Int.tdiv_eq_ediv_of_nonneg r0.1]; omega
    have d2 : Int.tmod (bt s i) 16 = bt s i % 16 := by rw [Int.tmod_eq_emod_of_nonneg r0.1]
    rw [if_neg (by simp), d1, d2, hex_f _ (by omega) (by omega), hex_f _ (by omega) (by omega)]
    simp only [Option.bind_some]
    rw [if_pos (by rw [nums_size, nums_size]; simp; omega), e1, nums_append']
    simpa using h

theorem escape_l (s keep : ByteArray) (hs : s.size ≤ 100000) (hk : keep.size ≤ 100000) (k : Nat) : ∀ (n i : Nat), i + n = s.size →
    eponymref02_Escape.l0 (k + 2 * n + keep.size + 2) s keep (strOfNums (escL (stay keep) ((ints s).take i))) i = some (strOfNums (escL (stay keep) (ints s))) := by
  intro n
  induction n with
  | zero =>
    intro i h
    rw [show k + 2 * 0 + keep.size + 2 = (k + keep.size + 1) + 1 by omega, eponymref02_Escape.l0, if_neg (by omega), List.take_of_length_le (by rw [ints_length]; omega)]
  | succ n ih =>
    intro i h
    have r0 := bt_range s i
    have hE := escL_take (stay keep) s i (by omega)
    have hlen : (escL (stay keep) ((ints s).take i)).length ≤ 3 * i := by
      have := escL_len (stay keep) ((ints s).take i)
      have h2 : ((ints s).take i).length ≤ i := List.length_take_le _ _
      omega
    have ih' := ih (i + 1) (by omega)
    rw [hE, ← Int.toNat_natCast i, ← btP, Int.toNat_natCast] at ih'
    rw [show k + 2 * (n + 1) + keep.size + 2 = ((k + 2 * n + keep.size + 2) + 1) + 1 by omega, eponymref02_Escape.l0, if_pos (by omega), if_pos (by omega), plain_f _ r0.1 r0.2]
    simp only [Option.bind_some]
    unfold esc1 stay at ih'
    by_cases hp : plainB (bt s i).toNat = true
    · rw [if_pos hp]
      apply escape_j s keep hs _ i true _ (by omega) hlen
      rw [if_pos rfl]
      rw [if_pos (by
        rw [hp]
        by_cases h37 : (bt s i).toNat = 37
        · rw [h37] at hp; simp [plainB] at hp
        · rw [if_neg h37]; rfl)] at ih'
      exact ih'
    · rw [if_neg hp]
      have hp' : plainB (bt s i).toNat = false := by simpa using hp
      by_cases h37 : bt s i = 37
      · rw [if_pos h37]
        apply escape_j s keep hs _ i false _ (by omega) hlen
        rw [if_neg (by simp)]
        rw [if_neg (by rw [if_pos (by omega)]; simp)] at ih'
        exact ih'
      · rw [if_neg h37, has_f keep (by omega) _ r0.1 _ (by omega)]
        simp only [Option.bind_some]
        apply escape_j s keep hs _ i _ _ (by omega) hlen
        rw [if_neg (show ¬ (bt s i).toNat = 37 by omega), hp', Bool.false_or] at ih'
        exact ih'
theorem ref_escape (s keep : ByteArray) (hs : s.size ≤ 100000) (hk : keep.size ≤ 100000) : eponymref02_Escape.f (2 * s.size + keep.size + 2) s keep = some (strOfNums (escL (stay keep) (ints s))) := by
  have := escape_l s keep hs hk 0 s.size 0 (by omega)
  rw [show 0 + 2 * s.size + keep.size + 2 = 2 * s.size + keep.size + 2 by omega] at this
  exact this
end Go.Proofs.YtkaepipnbgdoeaaDoor
