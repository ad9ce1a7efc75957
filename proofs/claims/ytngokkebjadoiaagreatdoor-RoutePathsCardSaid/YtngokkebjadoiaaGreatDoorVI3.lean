/- What the claim uses of the text I3. -/
import Derived.Test.YtngokkebjadoiaaGreatDoorVI2
set_option linter.unusedVariables false
set_option linter.unusedSimpArgs false
namespace Go.Proofs.YtngokkebjadoiaaGreatDoor
open Go.RowKit Go.PlainAid
open Go.Proofs.YtngokkebjadoiaaGreatDoorW.PrintWords hiding bt
open Go.Proofs.YtngokkebjadoiaaGreatDoorW.PrintMore

theorem take_mapN (s : ByteArray) (f : Int → Int) (i : Nat) (h : i < s.size) : ((ints s).take (i + 1)).map f = ((ints s).take i).map f ++ [f (bt s i)] := take_map s f i h
set_option maxHeartbeats 2000000 in
set_option maxRecDepth 100000 in
theorem capitals_any (s : ByteArray) (w : World) (hs : s.size ≤ 100000) :
    Calls Tryz.prog 12 #[.string s] w fun e w' => e = .returned (.string (strOfNums ((ints s).map capB))) ∧ Hid (Below w.heap.size w w') := by
  have hbt := get_bt s
  go_enter Tryz.func12, Tryz.ntmps12
  go_wp2_with fail
  have H0 : Hid (Bld w.heap.size w.heap.size [] (w.alloc (.cells #[.pointer none, .slice none 0 0] 73))) := ⟨by simp, Lib.fresh_isBuilder _ _ w⟩
  go_loopg [8] s.size (fun k v8 w' => ∃ i : Nat, v8 = .int .i64 i ∧ Hid (i + k = s.size) ∧ Hid (Bld w.heap.size w.heap.size (((ints s).take i).map capB) w') ∧ Hid (Below w.heap.size w w'))
  case atStart => exact ⟨0, rfl, by show _ = _; omega, H0.out, (Below.refl _ _).alloc (Nat.le_refl _) _⟩
  case round =>
    obtain ⟨i, rfl, HI, H1, HB⟩ := hrel
    clear H0
    have hlen : ((((ints s).take i).map capB).length : Int) ≤ 1000000 := by
      have := take_len s capB i
      have := HI.out
      omega
    by_cases hlt : i < s.size
    · cases gk with
      | zero => have := HI.out; omega
      | succ k1 =>
        have n0 := bt_nonneg s i
        have l0 := bt_le s i
        have HE := Lib.hid (take_mapN s capB i hlt)
        have HI2 : Hid (i + 1 + k1 = s.size) := by have := HI.out; show _ = _; omega
        by_cases h1 : 97 ≤ bt s i
        · by_cases h2 : bt s i ≤ 122
          · have HST : Hid (capB (bt s i) = bt s i - 32) := by show _ = _; unfold capB; rw [if_pos ⟨h1, h2⟩]
            have HWr := Lib.hid (H1.out.write (bt s i - 32) (by omega) (by omega) (by omega) HB.out)
            go_wp2_with fail
            refine HWr.out.mono ?_
            rintro e w6 ⟨rfl, hB6, hb6⟩
            go_wp2_with fail
            go_roundg k1
            case measure => omega
            case rel => exact ⟨i + 1, by go_num, HI2, by rw [HE.out, HST.out]; exact hB6, hb6⟩
          · have HST : Hid (capB (bt s i) = bt s i) := by show _ = _; unfold capB; rw [if_neg (by omega)]
            have HWr := Lib.hid (H1.out.write (bt s i) (by omega) (by omega) (by omega) HB.out)
            go_wp2_with fail
            refine HWr.out.mono ?_
            rintro e w6 ⟨rfl, hB6, hb6⟩
            go_wp2_with fail
            go_roundg k1
            case measure => omega
            case rel => exact ⟨i + 1, by go_num, HI2, by rw [HE.out, HST.out]; exact hB6, hb6⟩
        · have HST : Hid (capB (bt s i) = bt s i) := by show _ = _; unfold capB; rw [if_neg (by omega)]
          have HWr := Lib.hid (H1.out.write (bt s i) (by omega) (by omega) (by omega) HB.out)
          go_wp2_with fail
          refine HWr.out.mono ?_
          rintro e w6 ⟨rfl, hB6, hb6⟩
          go_wp2_with fail
          go_roundg k1
          case measure => omega
          case rel => exact ⟨i + 1, by go_num, HI2, by rw [HE.out, HST.out]; exact hB6, hb6⟩
    · have HTX : Hid ((ints s).take i = ints s) := by show _ = _; rw [List.take_of_length_le (by rw [ints_length]; omega)]
      rw [HTX.out] at H1
      have HT := Lib.hid (H1.out.text HB.out)
      clear H1 HI
      go_wp2_with fail
      refine HT.out.mono ?_
      rintro e w6 ⟨rfl, hb6⟩
      go_wp2
      go_ret
      exact ⟨rfl, hb6⟩
end Go.Proofs.YtngokkebjadoiaaGreatDoor

