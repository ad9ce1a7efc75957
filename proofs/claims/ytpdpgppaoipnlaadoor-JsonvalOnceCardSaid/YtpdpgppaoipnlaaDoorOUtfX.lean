/- What the claim uses of the text UtfX. -/
import Derived.Test.YtpdpgppaoipnlaaDoorOUtf
import Derived.Test.YtpdpgppaoipnlaaDoorOPct
import Derived.Test.YtpdpgppaoipnlaaDoorOPAllx0
import Derived.StillTailTactics
import Derived.Deep.RegionWith
import Derived.Test.YtpdpgppaoipnlaaDoorOUtfLaw
import Derived.Test.YtpdpgppaoipnlaaDoorORef
set_option linter.unusedVariables false
set_option linter.unusedSimpArgs false
namespace Go.Proofs.YtpdpgppaoipnlaaDoor
section
open Go.RowKit Go.PlainAid

/-- A builder of the call's own holds these bytes. -/
def Bld (B b : Nat) (bs : List Int) (w : World) : Prop := (∀ x ∈ bs, 0 ≤ x ∧ x ≤ 255) ∧ Lib.IsBuilder 92 5 B b (bs.map (Value.int .u8)) w

theorem Bld.drewN {B b : Nat} {bs : List Int} {w : World} (h : Bld B b bs w) (n : Nat) : Bld B b bs (w.drewN n) := h

end

section
open Go.RowKit Go.Proofs.YtpdpgppaoipnlaaDoorW.PrintWords Go.Proofs.YtpdpgppaoipnlaaDoorW.PrintMore

/-- The forms of runes, put together. -/
def encL (l : List Int) : List Int := (l.map formL).flatten
theorem Bld.text {b : Nat} {bs : List Int} {w0 w : World} (h : Bld w0.heap.size b bs w) (hb : Below w0.heap.size w0 w) :
    Calls Tryd.prog 67 #[.pointer (some ⟨b, 0, none⟩)] w fun e w' => e = .returned (.string (strOfNums bs)) ∧ Hid (Below w0.heap.size w0 w') := build_text h.1 h.2 hb

end

section
open Go.RowKit Go.Proofs.YtpdpgppaoipnlaaDoorW.PrintWords PAll

theorem bt_at_pre (s : ByteArray) (pre l : List Int) (h : ints s = pre ++ l) (i : Nat) : bt s ((pre.length : Int) + i) = l.getD i 0 := by
  rw [btP, bt_ints, h, show ((pre.length : Int) + (i : Int)).toNat = pre.length + i by omega, List.getD_eq_getElem?_getD, List.getD_eq_getElem?_getD, List.getElem?_append_right (by omega)]
  congr 2; omega

theorem nx_of_form (s : ByteArray) (pre post : List Int) (r : Int) (hr : utfRight r = true) (h : ints s = pre ++ (formL r ++ post)) : nx s pre.length = (r, ((formL r).length : Int), 0) := by
  have hsz : s.size = pre.length + ((formL r).length + post.length) := by rw [← ints_length, h]; simp
  rw [utfRight_iff] at hr
  have b0 := bt_at_pre s pre _ h 0
  have b1 := bt_at_pre s pre _ h 1
  have b2 := bt_at_pre s pre _ h 2
  have b3 := bt_at_pre s pre _ h 3
  simp only [Int.natCast_zero, Int.add_zero, Int.cast_ofNat_Int, Int.natCast_one] at b0 b1 b2 b3
  have hpos : 1 ≤ (formL r).length := by unfold formL; (repeat' split) <;> simp
  rw [nx_bytes s _ (by omega) (by omega)]
  by_cases c1 : r < 128
  · rw [formL_1 r c1] at *
    simp at b0 hsz ⊢
    rw [b0]; unfold nxB
    rw [if_pos c1]
  · by_cases c2 : r < 2048
    · rw [formL_2 r (by omega) c2] at *
      simp at b0 b1 hsz ⊢
      rw [b0, b1]; unfold nxB
      (repeat (first | rw [if_pos (by omega)] | rw [if_neg (by omega)]))
      apply pick3 <;> omega
    · by_cases c3 : r < 65536
      · rw [formL_3 r (by omega) c3] at *
        simp at b0 b1 b2 hsz ⊢
        rw [b0, b1, b2]; unfold nxB
        (repeat (first | rw [if_pos (by omega)] | rw [if_neg (by omega)]))
        apply pick3 <;> omega
      · rw [formL_4 r (by omega)] at *
        simp at b0 b1 b2 b3 hsz ⊢
        rw [b0, b1, b2, b3]; unfold nxB
        (repeat (first | rw [if_pos (by omega)] | rw [if_neg (by omega)]))
        apply pick3 <;> omega

theorem encL_ge : ∀ l : List Int, l.length ≤ (encL l).length
  | [] => by simp
  | r :: l => by
    have hpos : 1 ≤ (formL r).length := by unfold formL; (repeat' split) <;> simp
    have := encL_ge l
    simp [encL] at *
    omega
theorem encL_range (l : List Int) (hr : ∀ x ∈ l, utfRight x = true) : ∀ x ∈ encL l, 0 ≤ x ∧ x ≤ 255 := by
  intro x hx
  obtain ⟨y, hy, hx⟩ := List.mem_flatten.1 hx
  obtain ⟨r, h, rfl⟩ := List.mem_map.1 hy
  have h2 := hr r h
  rw [utfRight_iff] at h2
  exact formL_range r h2.1 h2.2.1 x hx
theorem nx_form (s : ByteArray) (at_ r n : Int) (h0 : 0 ≤ at_) (h1 : at_ < s.size) (h : nx s at_ = (r, n, 0)) : utfRight r = true ∧ (formL r).length = n ∧ ∀ i : Nat, i < n → bt s (at_ + i) = (formL r).getD i 0 := by
  have r0 := bt_range s at_
  have r1 := bt_range s (at_ + 1)
  have r2 := bt_range s (at_ + 2)
  have r3 := bt_range s (at_ + 3)
  rw [nx_bytes s _ h0 h1] at h
  rw [utfRight_iff]
  unfold nxB at h
  have key : ∀ L : List Int, formL r = L → (L.length : Int) = n → (0 < n → bt s at_ = L.getD 0 0) → (1 < n → bt s (at_ + 1) = L.getD 1 0) → (2 < n → bt s (at_ + 2) = L.getD 2 0) → (3 < n → bt s (at_ + 3) = L.getD 3 0) → n ≤ 4 →
      ((formL r).length : Int) = n ∧ ∀ i : Nat, (i : Int) < n → bt s (at_ + i) = (formL r).getD i 0 := by
    intro L e hl g0 g1 g2 g3 hn
    rw [e]
    refine ⟨hl, fun i hi => ?_⟩
    match i, hi with
    | 0, hi => simpa using g0 (by omega)
    | 1, hi => exact g1 (by omega)
    | 2, hi => exact g2 (by omega)
    | 3, hi => exact g3 (by omega)
    | i + 4, hi => omega
  by_cases c0 : bt s at_ < 128
  · rw [if_pos c0] at h
    simp only [Prod.mk.injEq] at h
    obtain ⟨e1, e2, _⟩ := h
    exact ⟨by omega, key _ (formL_1 _ (by omega)) (by simp; omega) (fun _ => by simp; omega) (by omega) (by omega) (by omega) (by omega)⟩
  rw [if_neg c0] at h
  by_cases c1 : bt s at_ < 194
  · rw [if_pos c1] at h
    simp only [Prod.mk.injEq] at h
    omega
  rw [if_neg c1] at h
  by_cases c2 : 245 ≤ bt s at_
  · rw [if_pos c2] at h
    simp only [Prod.mk.injEq] at h
    omega
  rw [if_neg c2] at h
  by_cases c3 : (s.size : Int) - at_ ≤ 1
  · rw [if_pos c3] at h
    simp only [Prod.mk.injEq] at h
    omega
  rw [if_neg c3] at h
  by_cases c4 : bt s (at_ + 1) < 128 ∨ 191 < bt s (at_ + 1) ∨ bt s at_ = 224 ∧ bt s (at_ + 1) < 160 ∨ bt s at_ = 237 ∧ 159 < bt s (at_ + 1) ∨ bt s at_ = 240 ∧ bt s (at_ + 1) < 144 ∨ bt s at_ = 244 ∧ 143 < bt s (at_ + 1)
  · rw [if_pos c4] at h
    simp only [Prod.mk.injEq] at h
    omega
  rw [if_neg c4] at h
  by_cases c5 : bt s at_ < 224
  · rw [if_pos c5] at h
    simp only [Prod.mk.injEq] at h
    obtain ⟨e1, e2, _⟩ := h
    exact ⟨by omega, key _ (formL_2 _ (by omega) (by omega)) (by simp; omega) (fun _ => by simp; omega) (fun _ => by simp; omega) (by omega) (by omega) (by omega)⟩
  rw [if_neg c5] at h
  by_cases c6 : (s.size : Int) - at_ ≤ 2
  · rw [if_pos c6] at h
    simp only [Prod.mk.injEq] at h
    omega
  rw [if_neg c6] at h
  by_cases c7 : bt s (at_ + 2) < 128 ∨ 191 < bt s (at_ + 2)
  · rw [if_pos c7] at h
    simp only [Prod.mk.injEq] at h
    omega
  rw [if_neg c7] at h
  by_cases c8 : bt s at_ < 240
  · rw [if_pos c8] at h
    simp only [Prod.mk.injEq] at h
    obtain ⟨e1, e2, _⟩ := h
    exact ⟨by omega, key _ (formL_3 _ (by omega) (by omega)) (by simp; omega) (fun _ => by simp; omega) (fun _ => by simp; omega) (fun _ => by simp; omega) (by omega) (by omega)⟩
  rw [if_neg c8] at h
  by_cases c9 : (s.size : Int) - at_ ≤ 3
  · rw [if_pos c9] at h
    simp only [Prod.mk.injEq] at h
    omega
  rw [if_neg c9] at h
  by_cases c10 : bt s (at_ + 3) < 128 ∨ 191 < bt s (at_ + 3)
  · rw [if_pos c10] at h
    simp only [Prod.mk.injEq] at h
    omega
  rw [if_neg c10] at h
  simp only [Prod.mk.injEq] at h
  obtain ⟨e1, e2, _⟩ := h
  exact ⟨by omega, key _ (formL_4 _ (by omega)) (by simp; omega) (fun _ => by simp; omega) (fun _ => by simp; omega) (fun _ => by simp; omega) (fun _ => by simp; omega) (by omega)⟩
end

section
open Go.RowKit Go.Proofs.YtpdpgppaoipnlaaDoorW.PrintWords Go.Proofs.YtpdpgppaoipnlaaDoorW.PrintMore PAll

theorem take_form (s : ByteArray) (at_ r n : Int) (h0 : 0 ≤ at_) (h1 : at_ < s.size) (h : nx s at_ = (r, n, 0)) : (ints s).take (at_ + n).toNat = (ints s).take at_.toNat ++ formL r := by
  obtain ⟨hr, hl, hb⟩ := nx_form s at_ r n h0 h1 h
  have hg := nx_good s at_ r n h
  rw [show (at_ + n).toNat = at_.toNat + n.toNat by omega, List.take_add]
  congr 1
  apply List.ext_getElem?
  intro i
  by_cases hi : i < n.toNat
  · have h2 := hb i (by omega)
    rw [btP, bt_ints, show (at_ + (i : Int)).toNat = at_.toNat + i by omega, List.getD_eq_getElem?_getD, List.getD_eq_getElem?_getD, List.getElem?_eq_getElem (by rw [ints_length]; omega), List.getElem?_eq_getElem (by omega)] at h2
    simp only [Option.getD_some] at h2
    rw [List.getElem?_take, if_pos hi, List.getElem?_drop, List.getElem?_eq_getElem (by rw [ints_length]; omega), List.getElem?_eq_getElem (by omega), h2]
  · rw [List.getElem?_eq_none (by simp; omega), List.getElem?_eq_none (by omega)]

theorem encL_snoc (l : List Int) (r : Int) : encL (l ++ [r]) = encL l ++ formL r := by
  unfold encL
  rw [List.map_append, List.flatten_append]
  simp
theorem dcd_back (s : ByteArray) : ∀ (k : Nat) (at_ : Int) (acc L : List Int), 0 ≤ at_ → at_ ≤ s.size → (s.size : Int) - at_ ≤ k → dcd s k at_ acc = (L, 0, 0) → (∀ x ∈ acc, utfRight x = true) → encL acc = (ints s).take at_.toNat → (∀ x ∈ L, utfRight x = true) ∧ encL L = ints s := by
  intro k
  induction k with
  | zero =>
    intro at_ acc L h0 h1 hk h hr he
    simp only [dcd, Prod.mk.injEq] at h
    obtain ⟨rfl, _⟩ := h
    exact ⟨hr, by rw [he, List.take_of_length_le (by rw [ints_length]; omega)]⟩
  | succ k ih =>
    intro at_ acc L h0 h1 hk h hr he
    unfold dcd at h
    by_cases c : (s.size : Int) ≤ at_
    · rw [if_pos c] at h
      simp only [Prod.mk.injEq] at h
      obtain ⟨rfl, _⟩ := h
      exact ⟨hr, by rw [he, List.take_of_length_le (by rw [ints_length]; omega)]⟩
    · rw [if_neg c] at h
      by_cases c2 : (nx s at_).2.2 = 0
      · rw [if_pos c2] at h
        have hn : nx s at_ = ((nx s at_).1, (nx s at_).2.1, 0) := by rw [← c2]
        have hg := nx_good s at_ _ _ hn
        have hf := nx_form s at_ _ _ h0 (by omega) hn
        refine ih _ _ L (by omega) (by omega) (by omega) h ?_ ?_
        · intro x hx
          rcases List.mem_append.1 hx with hx | hx
          · exact hr x hx
          · rw [List.mem_singleton.1 hx]; exact hf.1
        · rw [encL_snoc, he, take_form s at_ _ _ h0 (by omega) hn]
      · rw [if_neg c2] at h
        simp only [Prod.mk.injEq] at h
        exact absurd h.2.2 c2
/-- What was decoded is encoded to the same text. -/
theorem enc_dec (s : ByteArray) (l : List Int) (h : dec s = (l, 0, 0)) : (∀ x ∈ l, utfRight x = true) ∧ strOfNums (encL l) = s := by
  have := dcd_back s s.size 0 [] l (by omega) (by omega) (by omega) h (by simp) (by simp [encL])
  refine ⟨this.1, ints_inj ?_⟩
  rw [ints_nums _ (encL_range l this.1)]
  exact this.2

end
end Go.Proofs.YtpdpgppaoipnlaaDoor

