/- What the claim uses of the text G6. -/
import Derived.Test.YtangheahliekeaaGreatDoorVG4
set_option linter.unusedVariables false
set_option linter.unusedSimpArgs false
namespace Go.Proofs.YtangheahliekeaaGreatDoor
open Go.RowKit Go.PlainAid
open Go.Proofs.YtangheahliekeaaGreatDoorW.PrintWords hiding bt
open Go.Proofs.YtangheahliekeaaGreatDoorW.PrintMore

set_option maxRecDepth 100000 in
theorem bitB_lt (b t : Nat) : bitB b t < 2 := Nat.mod_lt _ (by omega)
set_option maxHeartbeats 2000000 in
set_option maxRecDepth 100000 in
theorem bit_any (f : Nat → Nat) (hf : ∀ i, i < 16 → f i < 256) (j : Nat) (hj : j < 128) (w : World) :
    Calls Tryz.prog 14 #[.agg (arr f), .int .i64 j] w fun e w' => e = .returned (.int .i64 (bitA f j)) ∧ Hid (Below w.heap.size w w') := by
  have HB0 : Hid (Below w.heap.size w (w.alloc (.cells (arr f) 22))) := (Below.refl _ _).alloc (Nat.le_refl _) _
  have z0 := arr_get f (j / 8) (by omega)
  have t1 : (j : Int).tdiv 8 = ((j / 8 : Nat) : Int) := by rw [Int.tdiv_eq_ediv_of_nonneg (by omega)]; omega
  have t2 : (j : Int).tmod 8 = ((j % 8 : Nat) : Int) := by rw [Int.tmod_eq_emod_of_nonneg (by omega)]; omega
  have hb := hf (j / 8) (by omega)
  have h8 : j / 8 < 16 := by omega
  have k0 : (0 : Int) ≤ ((j / 8 : Nat) : Int) := by omega
  have k1 : ((j / 8 : Nat) : Int) < 16 := by omega
  have HA : Hid (bitA f j = bitB (f (j / 8)) (j % 8)) := rfl
  have hm7 : j % 8 ≤ 7 := by omega
  rw [HA.out]
  clear hf HA
  generalize f (j / 8) = b at *
  generalize j / 8 = q at *
  generalize j % 8 = r at *
  go_enter Tryz.func14, Tryz.ntmps14
  go_wp2_with fail
  generalize w.alloc (.cells (arr f) 22) = w0 at *
  clear z0 t1 k0 k1
  go_loopg [5, 6] (7 - r) (fun g v5 v6 wi => ∃ n k : Nat, v5 = .int .i64 n ∧ v6 = .int .i64 k ∧ Hid (k = r + g ∧ k ≤ 7) ∧ Hid (n = b / 2 ^ (7 - k) ∧ n ≤ 255) ∧ Hid (Below w.heap.size w wi))
  case atStart => exact ⟨b, 7, rfl, rfl, by show _ ∧ _; omega, by show _ ∧ _; simp; omega, HB0⟩
  case round =>
    obtain ⟨n, k, rfl, rfl, HK, HN, HB⟩ := hrel
    have hk := HK.out
    have hn := HN.out
    by_cases hlt : r < k
    · obtain ⟨g1, rfl⟩ : ∃ g1, gk = g1 + 1 := ⟨gk - 1, by omega⟩
      have d1 : decide ((r : Int) < (k : Int)) = true := decide_eq_true (by omega)
      have d2 : decide (r < k) = true := decide_eq_true hlt
      have t3 : (n : Int).tdiv 2 = ((n / 2 : Nat) : Int) := by rw [Int.tdiv_eq_ediv_of_nonneg (by omega)]; omega
      have hd1 : n / 2 = b / 2 ^ (7 - (k - 1)) := by
        have h1 := hn.1
        have h2 : (7 - k).succ = 7 - (k - 1) := by omega
        rw [h1, Nat.div_div_eq_div_mul, ← Nat.pow_succ, h2]
      have hd2 : n / 2 ≤ 255 := by have := hn.2; omega
      have HD : Hid (n / 2 = b / 2 ^ (7 - (k - 1)) ∧ n / 2 ≤ 255) := ⟨hd1, hd2⟩
      have hk1 : 1 ≤ k := by omega
      have hk7 : k ≤ 7 := hk.2
      clear hd1 hn hk
      go_wp2_with fail
      go_roundg g1
      case measure => omega
      case rel => exact ⟨n / 2, k - 1, by go_num, by go_num, by have := HK.out; show _ ∧ _; omega, HD, HB⟩
    · obtain rfl : k = r := by omega
      have d1 : decide ((k : Int) < (k : Int)) = false := by simp
      have d2 : decide (k < k) = false := by simp
      have t3 : (n : Int).tmod 2 = ((n % 2 : Nat) : Int) := by rw [Int.tmod_eq_emod_of_nonneg (by omega)]; omega
      have HR : Hid (bitB b k = n % 2) := by show _ = _; unfold bitB; rw [hn.1]
      clear hlt hn hk HN
      go_wp2_with fail
      go_ret
      exact ⟨by rw [HR.out]; rfl, HB⟩

set_option maxHeartbeats 2000000 in
set_option maxRecDepth 100000 in
theorem behind_any (f : Nat → Nat) (hf : ∀ i, i < 16 → f i < 256) (m : Nat) (hm : m ≤ 128) (w : World) :
    Calls Tryz.prog 12 #[.agg (arr f), .int .i64 m] w fun e w' => ∃ z : Bool, e = .returned (.bool z) ∧ Hid (z = false ↔ ∀ j, m ≤ j → j < 128 → bitA f j = 0) ∧ Hid (Below w.heap.size w w') := by
  have HB0 : Hid (Below w.heap.size w (w.alloc (.cells (arr f) 22))) := (Below.refl _ _).alloc (Nat.le_refl _) _
  have H0 : Hid (ArrAt w.heap.size f (w.alloc (.cells (arr f) 22))) := Row.new w _ _ rfl
  have HF := Lib.hid hf
  clear hf
  go_enter Tryz.func12, Tryz.ntmps12
  go_wp2_with fail
  generalize w.alloc (.cells (arr f) 22) = w0 at *
  go_loopg [5] (128 - m) (fun g v5 wi => ∃ k : Nat, v5 = .int .i64 k ∧ Hid (k + g = 128) ∧ Hid (∀ j, m ≤ j → j < k → bitA f j = 0) ∧ Hid (ArrAt w.heap.size f wi) ∧ Hid (Below w.heap.size w wi) ∧ Hid (m ≤ k))
  case atStart => exact ⟨m, rfl, by show _ = _; omega, fun j h1 h2 => by omega, H0, HB0, Nat.le_refl _⟩
  case round =>
    obtain ⟨k, rfl, HK, HZ, HA, HB, HM⟩ := hrel
    have hk := HK.out
    have hmk := HM.out
    by_cases hlt : k < 128
    · obtain ⟨g1, rfl⟩ : ∃ g1, gk = g1 + 1 := ⟨gk - 1, by omega⟩
      have d1 : decide ((k : Int) < 128) = true := decide_eq_true (by omega)
      have d2 : decide (k < 128) = true := decide_eq_true hlt
      have HC := Lib.hid (fun W => bit_any f HF.out k hlt W)
      have h2 : bitA f k < 2 := bitB_lt _ _
      obtain ⟨z, Hz⟩ : ∃ z, Hid (bitA f k = z) := ⟨_, rfl⟩
      rw [Hz.out] at HC h2
      go_wp2_with (first | ((with_reducible refine wpl_load_arr HA.out ?hx ?_); (case hx => rfl)))
      refine (HC.out _).mono ?_
      rintro e w2 ⟨rfl, h2'⟩
      have HA2 := Lib.hid (HA.out.below h2'.out)
      have HB2 := Lib.hid (below_then HB.out HB.out.size h2'.out)
      clear h2' HC
      by_cases hz : z = 1
      · subst hz
        go_wp2_with fail
        go_ret
        exact ⟨true, rfl, ⟨(fun h => by cases h), (fun h => by have := h k hmk hlt; rw [Hz.out] at this; cases this)⟩, HB2⟩
      · obtain rfl : z = 0 := by omega
        go_wp2_with fail
        go_roundg g1
        case measure => omega
        case rel => exact ⟨k + 1, by go_num, by show _ = _; omega, fun j h1 h3 => by
          rcases Nat.lt_or_ge j k with h4 | h4
          · exact HZ.out j h1 h4
          · obtain rfl : j = k := by omega
            exact Hz.out, HA2, HB2, by show _ ≤ _; omega⟩
    · obtain rfl : k = 128 := by omega
      have d1 : decide ((128 : Int) < 128) = false := by simp
      clear hlt
      go_wp2_with fail
      go_ret
      exact ⟨false, rfl, ⟨fun _ => HZ.out, fun _ => rfl⟩, HB⟩

set_option maxHeartbeats 1000000 in
theorem rWidth_any (p : PV) (w : World) : Calls Tryz.prog 11 #[.agg (preA p)] w fun e w' => e = .returned (.int .i64 (widthV p)) ∧ Hid (Below w.heap.size w w') := by
  have HB : Hid (Below w.heap.size w (w.alloc (.cells (preA p) 24))) := (Below.refl _ _).alloc (Nat.le_refl _) _
  have c0 := preA_six p
  go_enter Tryz.func11, Tryz.ntmps11
  cases hs : p.six with
  | true =>
    rw [hs] at c0
    have HW : Hid (widthV p = 128) := by show _ = _; unfold widthV; rw [if_pos hs]
    clear hs
    go_wp2_with fail
    go_ret
    exact ⟨by rw [HW.out]; rfl, HB.out⟩
  | false =>
    rw [hs] at c0
    have HW : Hid (widthV p = 32) := by show _ = _; unfold widthV; rw [if_neg (by rw [hs]; simp)]
    clear hs
    go_wp2_with fail
    go_ret
    exact ⟨by rw [HW.out]; rfl, HB.out⟩
end Go.Proofs.YtangheahliekeaaGreatDoor

