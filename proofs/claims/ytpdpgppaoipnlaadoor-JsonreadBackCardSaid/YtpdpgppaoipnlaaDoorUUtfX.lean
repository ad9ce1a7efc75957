/- What the claim uses of the text UtfX. -/
import Derived.Test.YtpdpgppaoipnlaaDoorUUtf
import Derived.Test.YtpdpgppaoipnlaaDoorUPct
import Derived.Test.YtpdpgppaoipnlaaDoorUPAllx0
import Derived.StillTailTactics
import Derived.Deep.RegionWith
import Derived.Test.YtpdpgppaoipnlaaDoorUUtfLaw
import Derived.Test.YtpdpgppaoipnlaaDoorURef
set_option linter.unusedVariables false
set_option linter.unusedSimpArgs false
namespace Go.Proofs.YtpdpgppaoipnlaaDoor
section
open Go.RowKit Go.PlainAid

/-- A builder of the call's own holds these bytes. -/
def Bld (B b : Nat) (bs : List Int) (w : World) : Prop := (∀ x ∈ bs, 0 ≤ x ∧ x ≤ 255) ∧ Lib.IsBuilder 92 5 B b (bs.map (Value.int .u8)) w

theorem Bld.write {b : Nat} {bs : List Int} {w0 w : World} (h : Bld w0.heap.size b bs w) (c : Int) (h0 : 0 ≤ c) (h1 : c ≤ 255) (hl : (bs.length : Int) ≤ 1000000000) (hb : Below w0.heap.size w0 w) :
    Calls Tryd.prog 100 #[.pointer (some ⟨b, 0, none⟩), .int .u8 c] w fun e w' => e = .returned .nilIface ∧ Hid (Bld w0.heap.size b (bs ++ [c]) w') ∧ Hid (Below w0.heap.size w0 w') := by
  refine (Builder_WriteByte w0.heap.size b (bs.map (Value.int .u8)) c w h.2 (by simp; omega) hb.size).mono ?_
  rintro e w' ⟨rfl, hat, hb2⟩
  refine ⟨rfl, ⟨?_, ?_⟩, hb.trans hb2⟩
  · intro x hx
    rcases List.mem_append.1 hx with hx | hx
    · exact h.1 x hx
    · rw [List.mem_singleton.1 hx]; exact ⟨h0, h1⟩
  · rw [List.map_append]; exact .inr hat
theorem Bld.drewN {B b : Nat} {bs : List Int} {w : World} (h : Bld B b bs w) (n : Nat) : Bld B b bs (w.drewN n) := h

set_option maxHeartbeats 600000 in
theorem utf_put_1 (b : Nat) (bs : List Int) (r : Int) (w0 w : World) (h : Bld w0.heap.size b bs w) (hl : (bs.length : Int) ≤ 1000000) (hb : Below w0.heap.size w0 w) (h0 : 0 ≤ r) (h1 : r < 128) :
    Calls Tryd.prog 110 #[.pointer (some ⟨b, 0, none⟩), .int .i32 r] w fun e w' => e = .returned (.tuple #[]) ∧ Hid (Bld w0.heap.size b (bs ++ formL r) w') ∧ Hid (Below w0.heap.size w0 w') := by
  have hw : utfWidth r = 1 := by unfold utfWidth utfRight; simp; omega
  have HW := Lib.hid hw
  have hf : formL r = [r] := by unfold formL; rw [if_pos h1]
  have HF := Lib.hid hf
  have HWr := Lib.hid (h.write r h0 (by omega) (by omega) hb)
  clear hw hf h hb
  go_enter Tryd.func110, Tryd.ntmps110
  go_wp2_with (go_at_call 120; refine (utf_Width_any _ _).mono ?_; rintro e w' ⟨rfl, rfl⟩; rw [HW.out])
  refine HWr.out.mono ?_
  rintro e w' ⟨rfl, hB, hb2⟩
  go_wp2
  refine bodyPost_ret (results_none rfl _ _ _) rfl ?_
  rw [HF.out]
  exact ⟨rfl, hB, hb2⟩

theorem put_lead2 (r : Int) (h0 : 128 ≤ r) (h1 : r < 2048) : bits .or .u8 (IntKind.u8.wrap 960) (IntKind.u8.wrap (r / 64)) = 192 + r / 64 := by
  rw [IntKind.wrap_u8, IntKind.wrap_u8, show (960 : Int) % 256 = 192 from rfl, Int.emod_eq_of_lt (a := r / 64) (by omega) (by omega)]
  exact u8_or192 _ (by omega) (by omega)
theorem put_lead3 (r : Int) (h0 : 2048 ≤ r) (h1 : r < 65536) : bits .or .u8 (IntKind.u8.wrap 480) (IntKind.u8.wrap (r / 4096)) = 224 + r / 4096 := by
  rw [IntKind.wrap_u8, IntKind.wrap_u8, show (480 : Int) % 256 = 224 from rfl, Int.emod_eq_of_lt (a := r / 4096) (by omega) (by omega)]
  exact u8_or224 _ (by omega) (by omega)
theorem put_lead4 (r : Int) (h0 : 65536 ≤ r) (h1 : r ≤ 1114111) : bits .or .u8 (IntKind.u8.wrap 240) (IntKind.u8.wrap (r / 262144)) = 240 + r / 262144 := by
  rw [IntKind.wrap_u8, IntKind.wrap_u8, show (240 : Int) % 256 = 240 from rfl, Int.emod_eq_of_lt (a := r / 262144) (by omega) (by omega)]
  exact u8_or240 _ (by omega) (by omega)

set_option maxHeartbeats 1000000 in
theorem utf_put_2 (b : Nat) (bs : List Int) (r : Int) (w0 w : World) (h : Bld w0.heap.size b bs w) (hl : (bs.length : Int) ≤ 1000000) (hb : Below w0.heap.size w0 w) (h0 : 128 ≤ r) (h1 : r < 2048) :
    Calls Tryd.prog 110 #[.pointer (some ⟨b, 0, none⟩), .int .i32 r] w fun e w' => e = .returned (.tuple #[]) ∧ Hid (Bld w0.heap.size b (bs ++ formL r) w') ∧ Hid (Below w0.heap.size w0 w') := by
  have hw : utfWidth r = 2 := by unfold utfWidth utfRight; simp; omega
  have HW := Lib.hid hw
  have hf : formL r = [192 + r / 64, 128 + r % 64] := by unfold formL; (repeat (first | rw [if_neg (by omega)] | rw [if_pos (by omega)]))
  have HF := Lib.hid hf
  have HH := Lib.hid h
  have HB := Lib.hid hb
  clear hw hf h hb
  go_enter Tryd.func110, Tryd.ntmps110
  go_wp2_with (go_at_call 120; refine (utf_Width_any _ _).mono ?_; rintro e w' ⟨rfl, rfl⟩; rw [HW.out])
  have z0 : IntKind.i64.wrap 0 = 0 := by decide
  have z1 : IntKind.i64.wrap 1 = 1 := by decide
  have z2 : IntKind.i64.wrap 2 = 2 := by decide
  have z3 : IntKind.i64.wrap 3 = 3 := by decide
  have z6 : IntKind.i64.wrap 6 = 6 := by decide
  have y6 : IntKind.i64.wrap (6 * 1) = 6 := by decide
  have x12 : IntKind.i64.wrap 12 = 12 := by decide
  have x18 : IntKind.i64.wrap 18 = 18 := by decide
  have y12 : IntKind.i64.wrap (6 * 2) = 12 := by decide
  have y18 : IntKind.i64.wrap (6 * 3) = 18 := by decide
  go_region_with (go_at_call 100; rw [put_lead2 r h0 h1]; refine (Bld.write (b := b) (bs := bs) (w0 := w0) (by exact HH.out) (192 + r / 64) (by omega) (by omega) (by omega) (by exact HB.out.drew)).mono ?_; rintro e w6 ⟨rfl, HH6, HB6⟩)
  clear z0 z1 z2 z3 z6 y6 x12 x18 y12 y18 HH HB
  go_wp2_with fail
  refine wp_loop_rounds 2 ?_
  rw [rounds_succ]
  go_wp2_with fail
  refine (HH6.write (128 + r % 64) (by omega) (by omega) (by simp; omega) HB6).mono ?_
  rintro e w7 ⟨rfl, HH7, HB7⟩
  clear HH6 HB6
  go_wp2_with fail
  rw [rounds_succ]
  go_wp2_with fail
  go_end0
  refine ⟨rfl, ?_, HB7⟩
  rw [HF.out]
  simpa using HH7

set_option maxHeartbeats 1000000 in
theorem utf_put_3 (b : Nat) (bs : List Int) (r : Int) (w0 w : World) (h : Bld w0.heap.size b bs w) (hl : (bs.length : Int) ≤ 1000000) (hb : Below w0.heap.size w0 w) (h0 : 2048 ≤ r) (h1 : r < 65536) (hr : r < 55296 ∨ 57343 < r) :
    Calls Tryd.prog 110 #[.pointer (some ⟨b, 0, none⟩), .int .i32 r] w fun e w' => e = .returned (.tuple #[]) ∧ Hid (Bld w0.heap.size b (bs ++ formL r) w') ∧ Hid (Below w0.heap.size w0 w') := by
  have hw : utfWidth r = 3 := by unfold utfWidth utfRight; simp; omega
  have HW := Lib.hid hw
  have hf : formL r = [224 + r / 4096, 128 + r / 64 % 64, 128 + r % 64] := by unfold formL; (repeat (first | rw [if_neg (by omega)] | rw [if_pos (by omega)]))
  have HF := Lib.hid hf
  have HH := Lib.hid h
  have HB := Lib.hid hb
  clear hw hf h hb
  go_enter Tryd.func110, Tryd.ntmps110
  go_wp2_with (go_at_call 120; refine (utf_Width_any _ _).mono ?_; rintro e w' ⟨rfl, rfl⟩; rw [HW.out])
  have z0 : IntKind.i64.wrap 0 = 0 := by decide
  have z1 : IntKind.i64.wrap 1 = 1 := by decide
  have z2 : IntKind.i64.wrap 2 = 2 := by decide
  have z3 : IntKind.i64.wrap 3 = 3 := by decide
  have z6 : IntKind.i64.wrap 6 = 6 := by decide
  have y6 : IntKind.i64.wrap (6 * 1) = 6 := by decide
  have x12 : IntKind.i64.wrap 12 = 12 := by decide
  have x18 : IntKind.i64.wrap 18 = 18 := by decide
  have y12 : IntKind.i64.wrap (6 * 2) = 12 := by decide
  have y18 : IntKind.i64.wrap (6 * 3) = 18 := by decide
  go_region_with (go_at_call 100; rw [put_lead3 r h0 h1]; refine (Bld.write (b := b) (bs := bs) (w0 := w0) (by exact HH.out) (224 + r / 4096) (by omega) (by omega) (by omega) (by exact HB.out.drew)).mono ?_; rintro e w6 ⟨rfl, HH6, HB6⟩)
  clear z0 z1 z2 z3 z6 y6 x12 x18 y12 y18 HH HB
  go_wp2_with fail
  refine wp_loop_rounds 3 ?_
  rw [rounds_succ]
  go_wp2_with fail
  refine (HH6.write (128 + r / 64 % 64) (by omega) (by omega) (by simp; omega) HB6).mono ?_
  rintro e w7 ⟨rfl, HH7, HB7⟩
  clear HH6 HB6
  go_wp2_with fail
  rw [rounds_succ]
  go_wp2_with fail
  refine (HH7.write (128 + r % 64) (by omega) (by omega) (by simp; omega) HB7).mono ?_
  rintro e w8 ⟨rfl, HH8, HB8⟩
  clear HH7 HB7
  go_wp2_with fail
  rw [rounds_succ]
  go_wp2_with fail
  go_end0
  refine ⟨rfl, ?_, HB8⟩
  rw [HF.out]
  simpa using HH8

set_option maxHeartbeats 1000000 in
theorem utf_put_4 (b : Nat) (bs : List Int) (r : Int) (w0 w : World) (h : Bld w0.heap.size b bs w) (hl : (bs.length : Int) ≤ 1000000) (hb : Below w0.heap.size w0 w) (h0 : 65536 ≤ r) (h1 : r ≤ 1114111) :
    Calls Tryd.prog 110 #[.pointer (some ⟨b, 0, none⟩), .int .i32 r] w fun e w' => e = .returned (.tuple #[]) ∧ Hid (Bld w0.heap.size b (bs ++ formL r) w') ∧ Hid (Below w0.heap.size w0 w') := by
  have hw : utfWidth r = 4 := by unfold utfWidth utfRight; simp; omega
  have HW := Lib.hid hw
  have hf : formL r = [240 + r / 262144, 128 + r / 4096 % 64, 128 + r / 64 % 64, 128 + r % 64] := by unfold formL; (repeat (first | rw [if_neg (by omega)] | rw [if_pos (by omega)]))
  have HF := Lib.hid hf
  have HH := Lib.hid h
  have HB := Lib.hid hb
  clear hw hf h hb
  go_enter Tryd.func110, Tryd.ntmps110
  go_wp2_with (go_at_call 120; refine (utf_Width_any _ _).mono ?_; rintro e w' ⟨rfl, rfl⟩; rw [HW.out])
  have z0 : IntKind.i64.wrap 0 = 0 := by decide
  have z1 : IntKind.i64.wrap 1 = 1 := by decide
  have z2 : IntKind.i64.wrap 2 = 2 := by decide
  have z3 : IntKind.i64.wrap 3 = 3 := by decide
  have z6 : IntKind.i64.wrap 6 = 6 := by decide
  have y6 : IntKind.i64.wrap (6 * 1) = 6 := by decide
  have x12 : IntKind.i64.wrap 12 = 12 := by decide
  have x18 : IntKind.i64.wrap 18 = 18 := by decide
  have y12 : IntKind.i64.wrap (6 * 2) = 12 := by decide
  have y18 : IntKind.i64.wrap (6 * 3) = 18 := by decide
  go_region_with (go_at_call 100; rw [put_lead4 r h0 h1]; refine (Bld.write (b := b) (bs := bs) (w0 := w0) (by exact HH.out) (240 + r / 262144) (by omega) (by omega) (by omega) (by exact HB.out.drew)).mono ?_; rintro e w6 ⟨rfl, HH6, HB6⟩)
  clear z0 z1 z2 z3 z6 y6 x12 x18 y12 y18 HH HB
  go_wp2_with fail
  refine wp_loop_rounds 4 ?_
  rw [rounds_succ]
  go_wp2_with fail
  refine (HH6.write (128 + r / 4096 % 64) (by omega) (by omega) (by simp; omega) HB6).mono ?_
  rintro e w7 ⟨rfl, HH7, HB7⟩
  clear HH6 HB6
  go_wp2_with fail
  rw [rounds_succ]
  go_wp2_with fail
  refine (HH7.write (128 + r / 64 % 64) (by omega) (by omega) (by simp; omega) HB7).mono ?_
  rintro e w8 ⟨rfl, HH8, HB8⟩
  clear HH7 HB7
  go_wp2_with fail
  rw [rounds_succ]
  go_wp2_with fail
  refine (HH8.write (128 + r % 64) (by omega) (by omega) (by simp; omega) HB8).mono ?_
  rintro e w9 ⟨rfl, HH9, HB9⟩
  clear HH8 HB8
  go_wp2_with fail
  rw [rounds_succ]
  go_wp2_with fail
  go_end0
  refine ⟨rfl, ?_, HB9⟩
  rw [HF.out]
  simpa using HH9
end

section
open Go.RowKit Go.Proofs.YtpdpgppaoipnlaaDoorW.PrintWords Go.Proofs.YtpdpgppaoipnlaaDoorW.PrintMore

theorem utf_put_any (b : Nat) (bs : List Int) (r : Int) (w0 w : World) (h : Bld w0.heap.size b bs w) (hl : (bs.length : Int) ≤ 1000000) (hb : Below w0.heap.size w0 w) (hr : utfRight r = true) :
    Calls Tryd.prog 110 #[.pointer (some ⟨b, 0, none⟩), .int .i32 r] w fun e w' => e = .returned (.tuple #[]) ∧ Hid (Bld w0.heap.size b (bs ++ formL r) w') ∧ Hid (Below w0.heap.size w0 w') := by
  unfold utfRight at hr
  simp at hr
  by_cases c1 : r < 128
  · exact utf_put_1 b bs r w0 w h hl hb (by omega) c1
  · by_cases c2 : r < 2048
    · exact utf_put_2 b bs r w0 w h hl hb (by omega) c2
    · by_cases c3 : r < 65536
      · exact utf_put_3 b bs r w0 w h hl hb (by omega) c3 (by omega)
      · exact utf_put_4 b bs r w0 w h hl hb (by omega) (by omega)

/-- The forms of runes, put together. -/
def encL (l : List Int) : List Int := (l.map formL).flatten
theorem formL_len (r : Int) : (formL r).length ≤ 4 := by unfold formL; (repeat' split) <;> simp
theorem encL_len : ∀ l : List Int, (encL l).length ≤ 4 * l.length
  | [] => by simp [encL]
  | x :: l => by
    have := encL_len l
    have := formL_len x
    simp [encL] at *
    omega
theorem encL_take (l : List Int) (i : Nat) (h : i < l.length) : encL (l.take (i + 1)) = encL (l.take i) ++ formL (l.getD i 0) := by
  rw [List.take_succ_eq_append_getElem h]
  unfold encL
  rw [List.map_append, List.flatten_append]
  congr 1
  simp [List.getD, List.getElem?_eq_getElem h]

theorem Bld.text {b : Nat} {bs : List Int} {w0 w : World} (h : Bld w0.heap.size b bs w) (hb : Below w0.heap.size w0 w) :
    Calls Tryd.prog 67 #[.pointer (some ⟨b, 0, none⟩)] w fun e w' => e = .returned (.string (strOfNums bs)) ∧ Hid (Below w0.heap.size w0 w') := build_text h.1 h.2 hb

/-- 'n' runes from the begin on are right; the next one, if there is one, isn't. -/
structure EncAt (l : List Int) (n : Nat) : Prop where
  le : n ≤ l.length
  good : ∀ j, j < n → utfRight (l.getD j 0) = true
  bad : n < l.length → utfRight (l.getD n 0) = false

def EncIs (E : Nat → Addr) (l : List Int) (n : Nat) (w : World) (e : Ending) (w' : World) : Prop :=
  (n = l.length ∧ e = .returned (.tuple #[.string (strOfNums (encL l)), .nilIface]) ∨ n < l.length ∧ ∃ p, e = .returned (.tuple #[.string ⟨#[]⟩, .iface 69 (.pointer (some p))]) ∧ ErrV E w' (.iface 69 (.pointer (some p))) n 4) ∧ Below w.heap.size w w'

set_option maxHeartbeats 1000000 in
set_option maxRecDepth 100000 in
theorem utf_Encode_any {E : Nat → Addr} (A : Option Addr) (c : Nat) (l : List Int) (n : Nat) (w : World) (hl : l.length ≤ 100000) (hs : Sents E w) (hC : (Kd.int .i32).C w A l.length l) (hn : EncAt l n) :
    Calls Tryd.prog 90 #[.slice A l.length c] w (EncIs E l n w) := by
  have hst0 : Bld w.heap.size w.heap.size [] (w.alloc (.cells #[.pointer none, .slice none 0 0] 92)) := ⟨by simp, Lib.fresh_isBuilder _ _ w⟩
  have H0 := Lib.hid hst0
  have HC := Lib.hid hC
  have HN := Lib.hid hn
  clear hst0 hC hn
  go_enter Tryd.func90, Tryd.ntmps90
  go_wp2_with fail
  go_loopg [9] l.length (fun k v9 w' => ∃ i : Nat, v9 = .int .i64 i ∧ Hid (i ≤ n ∧ l.length ≤ i + k) ∧ Hid (Bld w.heap.size w.heap.size (encL (l.take i)) w') ∧ Hid (Below w.heap.size w w'))
  case atStart => exact ⟨0, rfl, ⟨Nat.zero_le _, by omega⟩, H0.out, (Below.refl _ _).alloc (Nat.le_refl _) _⟩
  case round =>
    obtain ⟨i, rfl, HI, HB, HW⟩ := hrel
    clear H0
    have hile : i ≤ l.length := Nat.le_trans HI.out.1 HN.out.le
    have hlen : ((encL (l.take i)).length : Int) ≤ 1000000 := by
      have := encL_len (l.take i)
      simp at this
      omega
    by_cases hlt : i < l.length
    · cases gk with
      | zero => have := HI.out.2; omega
      | succ k1 =>
        obtain ⟨ad, rfl, hcell⟩ := C_int_get (Kd.C_below HC.out HW.out) i hlt
        by_cases hin : i < n
        · have hr := HN.out.good i hin
          obtain ⟨r, HRR⟩ : ∃ r, Hid (l.getD i 0 = r) := ⟨_, rfl⟩
          rw [HRR.out] at hcell hr
          have HE : Hid (encL (l.take (i + 1)) = encL (l.take i) ++ formL r) := by rw [← HRR.out]; exact encL_take l i hlt
          have HP := Lib.hid (utf_put_any w.heap.size (encL (l.take i)) r w wr HB.out hlen HW.out hr)
          have HI2 : Hid (i + 1 ≤ n ∧ l.length ≤ i + 1 + k1) := ⟨hin, by have := HI.out.2; omega⟩
          have HR := Lib.hid hr
          clear HB HW hr HI
          go_wp2_with (go_at_call 108; refine (utf_Right_any _ _).mono ?_; rintro e w' ⟨rfl, rfl⟩; rw [HR.out])
          refine HP.out.mono ?_
          rintro e w6 ⟨rfl, HB6, HW6⟩
          go_wp2_with fail
          go_roundg k1
          case measure => omega
          case rel => exact ⟨i + 1, by go_num, HI2, by rw [HE.out]; exact HB6, HW6⟩
        · obtain rfl : i = n := Nat.le_antisymm HI.out.1 (Nat.le_of_not_lt hin)
          have hr := HN.out.bad hlt
          obtain ⟨r, HRR⟩ : ∃ r, Hid (l.getD i 0 = r) := ⟨_, rfl⟩
          rw [HRR.out] at hcell hr
          have HR := Lib.hid hr
          have c4 := (hs.below HW.out).c4
          clear hr HI HB
          go_wp2_with (first | (go_at_call 108; refine (utf_Right_any _ _).mono ?_; rintro e w' ⟨rfl, rfl⟩; rw [HR.out]) | (go_at_call 109; refine (utf_fault_any _ _ _).mono ?_; rintro e w' ⟨rfl, rfl⟩))
          go_ret2
          exact ⟨.inr ⟨hlt, _, rfl, ErrV.new rfl (by omega) (by omega)⟩, HW.out.alloc HW.out.size _⟩
    · obtain rfl : i = l.length := by omega
      have HNL : Hid (n = l.length) := Nat.le_antisymm HN.out.le HI.out.1
      have HT := Lib.hid (HB.out.text HW.out)
      rw [List.take_length] at HT
      clear HB HI
      go_wp2_with fail
      refine HT.out.mono ?_
      rintro e w6 ⟨rfl, HW6⟩
      go_wp2
      go_ret2
      exact ⟨.inl ⟨HNL.out, rfl⟩, HW6⟩
end

section
open Go.RowKit Go.Proofs.YtpdpgppaoipnlaaDoorW.PrintWords PAll

theorem bt_at_pre (s : ByteArray) (pre l : List Int) (h : ints s = pre ++ l) (i : Nat) : bt s ((pre.length : Int) + i) = l.getD i 0 := by
  rw [btP, bt_ints, h, show ((pre.length : Int) + (i : Int)).toNat = pre.length + i by omega, List.getD_eq_getElem?_getD, List.getD_eq_getElem?_getD, List.getElem?_append_right (by omega)]
  congr 2; omega

theorem nx_of_form (s : ByteArray) (pre post : List Int) (r : Int) (hr : utfRight r = true) (h : ints s = pre ++ (formL r ++ post)) : nx s pre.length = (r, ((formL r).length : Int), 0) := by
  have hsz : s.size = pre.length + ((formL r).length + post.length) := by rw [← ints_length, h]; simp
  rw [utfRight_iff] at hr
  have b0 := bt_at_pre s pre _ h 0
  have b1 := bt_at_pre s pre _ h 1
  have b2 := bt_at_pre s pre _ h 2
  have b3 := bt_at_pre s pre _ h 3
  simp only [Int.natCast_zero, Int.add_zero, Int.cast_ofNat_Int, Int.natCast_one] at b0 b1 b2 b3
  have hpos : 1 ≤ (formL r).length := by unfold formL; (repeat' split) <;> simp
  rw [nx_bytes s _ (by omega) (by omega)]
  by_cases c1 : r < 128
  · rw [formL_1 r c1] at *
    simp at b0 hsz ⊢
    rw [b0]; unfold nxB
    rw [if_pos c1]
  · by_cases c2 : r < 2048
    · rw [formL_2 r (by omega) c2] at *
      simp at b0 b1 hsz ⊢
      rw [b0, b1]; unfold nxB
      (repeat (first | rw [if_pos (by omega)] | rw [if_neg (by omega)]))
      apply pick3 <;> omega
    · by_cases c3 : r < 65536
      · rw [formL_3 r (by omega) c3] at *
        simp at b0 b1 b2 hsz ⊢
        rw [b0, b1, b2]; unfold nxB
        (repeat (first | rw [if_pos (by omega)] | rw [if_neg (by omega)]))
        apply pick3 <;> omega
      · rw [formL_4 r (by omega)] at *
        simp at b0 b1 b2 b3 hsz ⊢
        rw [b0, b1, b2, b3]; unfold nxB
        (repeat (first | rw [if_pos (by omega)] | rw [if_neg (by omega)]))
        apply pick3 <;> omega

theorem encL_ge : ∀ l : List Int, l.length ≤ (encL l).length
  | [] => by simp
  | r :: l => by
    have hpos : 1 ≤ (formL r).length := by unfold formL; (repeat' split) <;> simp
    have := encL_ge l
    simp [encL] at *
    omega
theorem encL_range (l : List Int) (hr : ∀ x ∈ l, utfRight x = true) : ∀ x ∈ encL l, 0 ≤ x ∧ x ≤ 255 := by
  intro x hx
  obtain ⟨y, hy, hx⟩ := List.mem_flatten.1 hx
  obtain ⟨r, h, rfl⟩ := List.mem_map.1 hy
  have h2 := hr r h
  rw [utfRight_iff] at h2
  exact formL_range r h2.1 h2.2.1 x hx
theorem nx_form (s : ByteArray) (at_ r n : Int) (h0 : 0 ≤ at_) (h1 : at_ < s.size) (h : nx s at_ = (r, n, 0)) : utfRight r = true ∧ (formL r).length = n ∧ ∀ i : Nat, i < n → bt s (at_ + i) = (formL r).getD i 0 := by
  have r0 := bt_range s at_
  have r1 := bt_range s (at_ + 1)
  have r2 := bt_range s (at_ + 2)
  have r3 := bt_range s (at_ + 3)
  rw [nx_bytes s _ h0 h1] at h
  rw [utfRight_iff]
  unfold nxB at h
  have key : ∀ L : List Int, formL r = L → (L.length : Int) = n → (0 < n → bt s at_ = L.getD 0 0) → (1 < n → bt s (at_ + 1) = L.getD 1 0) → (2 < n → bt s (at_ + 2) = L.getD 2 0) → (3 < n → bt s (at_ + 3) = L.getD 3 0) → n ≤ 4 →
      ((formL r).length : Int) = n ∧ ∀ i : Nat, (i : Int) < n → bt s (at_ + i) = (formL r).getD i 0 := by
    intro L e hl g0 g1 g2 g3 hn
    rw [e]
    refine ⟨hl, fun i hi => ?_⟩
    match i, hi with
    | 0, hi => simpa using g0 (by omega)
    | 1, hi => exact g1 (by omega)
    | 2, hi => exact g2 (by omega)
    | 3, hi => exact g3 (by omega)
    | i + 4, hi => omega
  by_cases c0 : bt s at_ < 128
  · rw [if_pos c0] at h
    simp only [Prod.mk.injEq] at h
    obtain ⟨e1, e2, _⟩ := h
    exact ⟨by omega, key _ (formL_1 _ (by omega)) (by simp; omega) (fun _ => by simp; omega) (by omega) (by omega) (by omega) (by omega)⟩
  rw [if_neg c0] at h
  by_cases c1 : bt s at_ < 194
  · rw [if_pos c1] at h
    simp only [Prod.mk.injEq] at h
    omega
  rw [if_neg c1] at h
  by_cases c2 : 245 ≤ bt s at_
  · rw [if_pos c2] at h
    simp only [Prod.mk.injEq] at h
    omega
  rw [if_neg c2] at h
  by_cases c3 : (s.size : Int) - at_ ≤ 1
  · rw [if_pos c3] at h
    simp only [Prod.mk.injEq] at h
    omega
  rw [if_neg c3] at h
  by_cases c4 : bt s (at_ + 1) < 128 ∨ 191 < bt s (at_ + 1) ∨ bt s at_ = 224 ∧ bt s (at_ + 1) < 160 ∨ bt s at_ = 237 ∧ 159 < bt s (at_ + 1) ∨ bt s at_ = 240 ∧ bt s (at_ + 1) < 144 ∨ bt s at_ = 244 ∧ 143 < bt s (at_ + 1)
  · rw [if_pos c4] at h
    simp only [Prod.mk.injEq] at h
    omega
  rw [if_neg c4] at h
  by_cases c5 : bt s at_ < 224
  · rw [if_pos c5] at h
    simp only [Prod.mk.injEq] at h
    obtain ⟨e1, e2, _⟩ := h
    exact ⟨by omega, key _ (formL_2 _ (by omega) (by omega)) (by simp; omega) (fun _ => by simp; omega) (fun _ => by simp; omega) (by omega) (by omega) (by omega)⟩
  rw [if_neg c5] at h
  by_cases c6 : (s.size : Int) - at_ ≤ 2
  · rw [if_pos c6] at h
    simp only [Prod.mk.injEq] at h
    omega
  rw [if_neg c6] at h
  by_cases c7 : bt s (at_ + 2) < 128 ∨ 191 < bt s (at_ + 2)
  · rw [if_pos c7] at h
    simp only [Prod.mk.injEq] at h
    omega
  rw [if_neg c7] at h
  by_cases c8 : bt s at_ < 240
  · rw [if_pos c8] at h
    simp only [Prod.mk.injEq] at h
    obtain ⟨e1, e2, _⟩ := h
    exact ⟨by omega, key _ (formL_3 _ (by omega) (by omega)) (by simp; omega) (fun _ => by simp; omega) (fun _ => by simp; omega) (fun _ => by simp; omega) (by omega) (by omega)⟩
  rw [if_neg c8] at h
  by_cases c9 : (s.size : Int) - at_ ≤ 3
  · rw [if_pos c9] at h
    simp only [Prod.mk.injEq] at h
    omega
  rw [if_neg c9] at h
  by_cases c10 : bt s (at_ + 3) < 128 ∨ 191 < bt s (at_ + 3)
  · rw [if_pos c10] at h
    simp only [Prod.mk.injEq] at h
    omega
  rw [if_neg c10] at h
  simp only [Prod.mk.injEq] at h
  obtain ⟨e1, e2, _⟩ := h
  exact ⟨by omega, key _ (formL_4 _ (by omega)) (by simp; omega) (fun _ => by simp; omega) (fun _ => by simp; omega) (fun _ => by simp; omega) (fun _ => by simp; omega) (by omega)⟩
end

section
open Go.RowKit Go.Proofs.YtpdpgppaoipnlaaDoorW.PrintWords Go.Proofs.YtpdpgppaoipnlaaDoorW.PrintMore PAll

theorem take_form (s : ByteArray) (at_ r n : Int) (h0 : 0 ≤ at_) (h1 : at_ < s.size) (h : nx s at_ = (r, n, 0)) : (ints s).take (at_ + n).toNat = (ints s).take at_.toNat ++ formL r := by
  obtain ⟨hr, hl, hb⟩ := nx_form s at_ r n h0 h1 h
  have hg := nx_good s at_ r n h
  rw [show (at_ + n).toNat = at_.toNat + n.toNat by omega, List.take_add]
  congr 1
  apply List.ext_getElem?
  intro i
  by_cases hi : i < n.toNat
  · have h2 := hb i (by omega)
    rw [btP, bt_ints, show (at_ + (i : Int)).toNat = at_.toNat + i by omega, List.getD_eq_getElem?_getD, List.getD_eq_getElem?_getD, List.getElem?_eq_getElem (by rw [ints_length]; omega), List.getElem?_eq_getElem (by omega)] at h2
    simp only [Option.getD_some] at h2
    rw [List.getElem?_take, if_pos hi, List.getElem?_drop, List.getElem?_eq_getElem (by rw [ints_length]; omega), List.getElem?_eq_getElem (by omega), h2]
  · rw [List.getElem?_eq_none (by simp; omega), List.getElem?_eq_none (by omega)]

theorem encL_snoc (l : List Int) (r : Int) : encL (l ++ [r]) = encL l ++ formL r := by
  unfold encL
  rw [List.map_append, List.flatten_append]
  simp
theorem dcd_back (s : ByteArray) : ∀ (k : Nat) (at_ : Int) (acc L : List Int), 0 ≤ at_ → at_ ≤ s.size → (s.size : Int) - at_ ≤ k → dcd s k at_ acc = (L, 0, 0) → (∀ x ∈ acc, utfRight x = true) → encL acc = (ints s).take at_.toNat → (∀ x ∈ L, utfRight x = true) ∧ encL L = ints s := by
  intro k
  induction k with
  | zero =>
    intro at_ acc L h0 h1 hk h hr he
    simp only [dcd, Prod.mk.injEq] at h
    obtain ⟨rfl, _⟩ := h
    exact ⟨hr, by rw [he, List.take_of_length_le (by rw [ints_length]; omega)]⟩
  | succ k ih =>
    intro at_ acc L h0 h1 hk h hr he
    unfold dcd at h
    by_cases c : (s.size : Int) ≤ at_
    · rw [if_pos c] at h
      simp only [Prod.mk.injEq] at h
      obtain ⟨rfl, _⟩ := h
      exact ⟨hr, by rw [he, List.take_of_length_le (by rw [ints_length]; omega)]⟩
    · rw [if_neg c] at h
      by_cases c2 : (nx s at_).2.2 = 0
      · rw [if_pos c2] at h
        have hn : nx s at_ = ((nx s at_).1, (nx s at_).2.1, 0) := by rw [← c2]
        have hg := nx_good s at_ _ _ hn
        have hf := nx_form s at_ _ _ h0 (by omega) hn
        refine ih _ _ L (by omega) (by omega) (by omega) h ?_ ?_
        · intro x hx
          rcases List.mem_append.1 hx with hx | hx
          · exact hr x hx
          · rw [List.mem_singleton.1 hx]; exact hf.1
        · rw [encL_snoc, he, take_form s at_ _ _ h0 (by omega) hn]
      · rw [if_neg c2] at h
        simp only [Prod.mk.injEq] at h
        exact absurd h.2.2 c2
/-- What was decoded is encoded to the same text. -/
theorem enc_dec (s : ByteArray) (l : List Int) (h : dec s = (l, 0, 0)) : (∀ x ∈ l, utfRight x = true) ∧ strOfNums (encL l) = s := by
  have := dcd_back s s.size 0 [] l (by omega) (by omega) (by omega) h (by simp) (by simp [encL])
  refine ⟨this.1, ints_inj ?_⟩
  rw [ints_nums _ (encL_range l this.1)]
  exact this.2

theorem encAt_of_all {l : List Int} (h : ∀ x ∈ l, utfRight x = true) : EncAt l l.length :=
  ⟨Nat.le_refl _, fun j hj => by rw [List.getD_eq_getElem?_getD, List.getElem?_eq_getElem hj]; exact h _ (List.getElem_mem hj), by omega⟩

theorem utf_Encode_ok {E : Nat → Addr} (A : Option Addr) (c : Nat) (l : List Int) (w : World) (hl : l.length ≤ 100000) (hs : Sents E w) (hC : (Kd.int .i32).C w A l.length l) (hr : ∀ x ∈ l, utfRight x = true) :
    Calls Tryd.prog 90 #[.slice A l.length c] w fun e w' => e = .returned (.tuple #[.string (strOfNums (encL l)), .nilIface]) ∧ Below w.heap.size w w' := by
  refine (utf_Encode_any A c l l.length w hl hs hC (encAt_of_all hr)).mono ?_
  rintro e w' ⟨⟨_, rfl⟩ | ⟨h, _⟩, hb⟩
  · exact ⟨rfl, hb⟩
  · omega
end
end Go.Proofs.YtpdpgppaoipnlaaDoor

