/- strings.IndexByte by its contract: the place of a byte in what stands from a place on. -/
import Derived.Test.YtpdpgppaoipnlaaDoorBase
import Derived.Test.YtpdpgppaoipnlaaDoorProg
import Derived.WalkKit
import Derived.Lib.Strings
import Derived.Lib.Slices
import Derived.Lib.Walk
import Derived.Lib.Bytealg
import Derived.Lib.IndexLaws
set_option linter.unusedVariables false
set_option linter.unusedSimpArgs false
namespace Go.Proofs.YtpdpgppaoipnlaaDoor
open Go.RowKit Go.PlainAid

set_option maxHeartbeats 1000000 in
set_option maxRecDepth 100000 in
theorem stringslite_IndexByte (s : ByteArray) (c : Int) (w : World) :
    Calls Tryd.prog 102 #[.string s, .int .u8 c] w fun e w' => e = .returned (.int .i64 (Lib.indexByte s.data.toList c.toNat.toUInt8)) ∧ w' = w := by
  go_enter Tryd.func102, Tryd.ntmps102
  go_wp2
  rw [run_callFunc_extern Tryd.func117 (by kernel_rfl) (by kernel_rfl) (by kernel_rfl) (e := Extern.BytealgIndexByte.indexByte) (by kernel_rfl), Lib.run_indexByteString]
  simp only [Result.andThen]
  rw [Oper.upon_value]
  go_wp2
  go_ret
  exact ⟨rfl, rfl⟩
theorem strings_IndexByte (s : ByteArray) (c : Int) (w : World) :
    Calls Tryd.prog 72 #[.string s, .int .u8 c] w fun e w' => e = .returned (.int .i64 (Lib.indexByte s.data.toList c.toNat.toUInt8)) ∧ w' = w := by
  go_enter Tryd.func72, Tryd.ntmps72
  go_wp2_with (go_at_call 102; refine (stringslite_IndexByte _ _ _).mono ?_; rintro e w' ⟨rfl, rfl⟩)
  go_ret
  exact ⟨rfl, rfl⟩

/-- The place of a byte from a place on; the text's end, if there is none. -/
def nb (s : ByteArray) (c : Int) : Nat → Nat → Nat
  | 0, i => i
  | k + 1, i => if s.size ≤ i then i else if bt s i = c then i else nb s c k (i + 1)
theorem nb_tells (s : ByteArray) (c : Int) : ∀ (k i : Nat), i + k = s.size → i ≤ nb s c k i ∧ nb s c k i ≤ s.size ∧ (∀ j, i ≤ j → j < nb s c k i → bt s j ≠ c) ∧ (nb s c k i < s.size → bt s (nb s c k i) = c)
  | 0, i, h => by simp [nb]; exact ⟨by omega, fun j h1 h2 => by omega, fun h1 => by omega⟩
  | k + 1, i, h => by
    unfold nb
    rw [if_neg (by omega)]
    by_cases hc : bt s i = c
    · rw [if_pos hc]; exact ⟨Nat.le_refl _, by omega, fun j h1 h2 => by omega, fun _ => hc⟩
    · rw [if_neg hc]
      obtain ⟨h1, h2, h3, h4⟩ := nb_tells s c k (i + 1) (by omega)
      refine ⟨by omega, h2, fun j hj1 hj2 => ?_, h4⟩
      by_cases e : j = i
      · subst e; exact hc
      · exact h3 j (by omega) hj2
theorem nb_unique (s : ByteArray) (c : Int) (i t : Nat) (h : i ≤ s.size) (h1 : i ≤ t) (h2 : t ≤ s.size) (h3 : ∀ j, i ≤ j → j < t → bt s j ≠ c) (h4 : t < s.size → bt s t = c) : nb s c (s.size - i) i = t := by
  obtain ⟨g1, g2, g3, g4⟩ := nb_tells s c (s.size - i) i (by omega)
  rcases Nat.lt_trichotomy (nb s c (s.size - i) i) t with h | h | h
  · exact absurd (g4 (by omega)) (h3 _ g1 h)
  · exact h
  · exact absurd (h4 (by omega)) (g3 _ h1 h)

theorem bt_get? (s : ByteArray) (i : Nat) (h : i < s.size) : ∃ b, s.data.toList[i]? = some b ∧ bt s i = (b.toNat : Int) := by
  refine ⟨s[i], ?_, ?_⟩
  · have h' : i < s.data.size := h
    rw [Array.getElem?_toList, Array.getElem?_eq_getElem h']; rfl
  · exact (get_bt s i h).symm
theorem u8_of (c : Int) (h0 : 0 ≤ c) (h1 : c ≤ 255) (b : UInt8) : b = c.toNat.toUInt8 ↔ (b.toNat : Int) = c := by
  constructor
  · intro h; subst h; simp; omega
  · intro h
    apply UInt8.toNat_inj.1
    simp
    omega

/-- What IndexByte hands back on what stands from a place on. -/
theorem index_nb (s : ByteArray) (c : Int) (h0 : 0 ≤ c) (h1 : c ≤ 255) (i : Nat) (hi : i ≤ s.size) :
    (Lib.indexByte (s.extract i s.size).data.toList c.toNat.toUInt8 = -1 ∧ nb s c (s.size - i) i = s.size) ∨
    (∃ o : Nat, Lib.indexByte (s.extract i s.size).data.toList c.toNat.toUInt8 = o ∧ nb s c (s.size - i) i = i + o ∧ i + o < s.size) := by
  have hget : ∀ k, (s.extract i s.size).data.toList[k]? = s.data.toList[i + k]? := by
    intro k
    rw [Lib.extract_data, List.getElem?_take]
    split
    · rw [List.getElem?_drop]
    · rw [List.getElem?_eq_none]
      rw [Array.length_toList]; show s.size ≤ _; omega
  have hge := Lib.indexByte_ge (s.extract i s.size).data.toList c.toNat.toUInt8
  by_cases h : Lib.indexByte (s.extract i s.size).data.toList c.toNat.toUInt8 = -1
  · refine .inl ⟨h, nb_unique s c i s.size hi hi (Nat.le_refl _) (fun j hj1 hj2 e => ?_) (fun h => by omega)⟩
    have := Lib.indexByte_none h (j - i)
    rw [hget, show i + (j - i) = j by omega] at this
    obtain ⟨b, hb, he⟩ := bt_get? s j hj2
    rw [hb] at this
    exact this (congrArg some ((u8_of c h0 h1 b).2 (by omega)))
  · obtain ⟨o, ho⟩ : ∃ o : Nat, Lib.indexByte (s.extract i s.size).data.toList c.toNat.toUInt8 = o := ⟨(Lib.indexByte (s.extract i s.size).data.toList c.toNat.toUInt8).toNat, by omega⟩
    obtain ⟨g1, g2⟩ := Lib.indexByte_some ho
    rw [hget] at g1
    have hlt : i + o < s.size := by
      rcases Nat.lt_or_ge (i + o) s.size with h | h
      · exact h
      · rw [List.getElem?_eq_none (by rw [Array.length_toList]; exact h)] at g1; simp at g1
    refine .inr ⟨o, ho, nb_unique s c i (i + o) hi (by omega) (by omega) (fun j hj1 hj2 e => ?_) (fun h => ?_), hlt⟩
    · have := g2 (j - i) (by omega)
      rw [hget, show i + (j - i) = j by omega] at this
      obtain ⟨b, hb, he⟩ := bt_get? s j (by omega)
      rw [hb] at this
      exact this (congrArg some ((u8_of c h0 h1 b).2 (by omega)))
    · obtain ⟨b, hb, he⟩ := bt_get? s (i + o) hlt
      rw [hb] at g1
      rw [he]
      exact (u8_of c h0 h1 b).1 (Option.some.inj g1)
end Go.Proofs.YtpdpgppaoipnlaaDoor
