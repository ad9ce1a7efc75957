-- Written by the kit's print.py over several roots (printall.sh)
import Derived.Test.YtpdpgppaoipnlaaDoorPAllx0
namespace Go.Proofs.YtpdpgppaoipnlaaDoor.PAll
open Go.RowKit Go.Proofs.YtpdpgppaoipnlaaDoorW.PrintWords Go.Proofs.YtpdpgppaoipnlaaDoorW.PrintLast Go.Proofs.YtpdpgppaoipnlaaDoorW.PrintMore
attribute [local go_sem] max2_int min2_int max_two min_two max_three min_three max_four min_four   -- for this text's walks alone
set_option linter.unusedVariables false
set_option linter.unusedSimpArgs false

/-! ### eponymref01_Right: function 94 -/
def eponymref01_Right.f (a0 : Int) : Option (Bool) := if a0 ≥ 0 then (if a0 ≤ 1114111 then (if a0 ≥ 55296 then (some (!(decide (a0 ≤ 57343)))) else (some (!false))) else (some false)) else (some false)
set_option maxHeartbeats 8000000 in
set_option maxRecDepth 100000 in
theorem eponymref01_Right.calls (a0 : Int) (r : Bool) (w : World) (h : eponymref01_Right.f a0 = some r) :
    Calls Tryd.prog 94 #[.int .i32 a0] w fun e w' => e = .returned (.bool r) ∧ Drawn0 w w' := by
  have H : (if a0 ≥ 0 then (if a0 ≤ 1114111 then (if a0 ≥ 55296 then (some (!(decide (a0 ≤ 57343)))) else (some (!false))) else (some false)) else (some false)) = some r := h
  clear h
  by_cases c2 : a0 ≥ 0
  · rw [if_pos c2] at H
    have c2b0 : decide (0 ≤ a0) = true := decide_eq_true c2
    clear c2
    by_cases c3 : a0 ≤ 1114111
    · rw [if_pos c3] at H
      have c3b0 : decide (a0 ≤ 1114111) = true := decide_eq_true c3
      clear c3
      by_cases c4 : a0 ≥ 55296
      · rw [if_pos c4] at H
        have c4b0 : decide (55296 ≤ a0) = true := decide_eq_true c4
        clear c4
        obtain rfl := Option.some.inj H
        go_enter Tryd.func94, Tryd.ntmps94
        go_wp2
        go_ret
        exact ⟨by first | rfl | (simp; done) | (simp [*]; done), by repeat (first | exact Drawn0.refl _ | apply Drawn0.step)⟩
      · rw [if_neg c4] at H
        have c4b0 : decide (55296 ≤ a0) = false := decide_eq_false c4
        clear c4
        obtain rfl := Option.some.inj H
        go_enter Tryd.func94, Tryd.ntmps94
        go_wp2
        go_ret
        exact ⟨by first | rfl | (simp; done) | (simp [*]; done), by repeat (first | exact Drawn0.refl _ | apply Drawn0.step)⟩
    · rw [if_neg c3] at H
      have c3b0 : decide (a0 ≤ 1114111) = false := decide_eq_false c3
      clear c3
      obtain rfl := Option.some.inj H
      go_enter Tryd.func94, Tryd.ntmps94
      go_wp2
      go_ret
      exact ⟨by first | rfl | (simp; done) | (simp [*]; done), by repeat (first | exact Drawn0.refl _ | apply Drawn0.step)⟩
  · rw [if_neg c2] at H
    have c2b0 : decide (0 ≤ a0) = false := decide_eq_false c2
    clear c2
    obtain rfl := Option.some.inj H
    go_enter Tryd.func94, Tryd.ntmps94
    go_wp2
    go_ret
    exact ⟨by first | rfl | (simp; done) | (simp [*]; done), by repeat (first | exact Drawn0.refl _ | apply Drawn0.step)⟩

/-! ### eponymref01_some: function 95 -/
mutual
def eponymref01_some.j0 : Nat → Int → Int → Int → Int → Int → Option (Bool)
  | 0, _, _, _, _, _ => none
  | k + 1, x0, x1, x2, x7, x8 => if x2 = 4 then (eponymref01_some.j1 k x0 x1 65536 1114111) else (eponymref01_some.j1 k x0 x1 x7 x8)
def eponymref01_some.j1 : Nat → Int → Int → Int → Int → Option (Bool)
  | 0, _, _, _, _ => none
  | k + 1, x0, x1, x7, x8 => if x0 < x7 then (eponymref01_some.j2 k x7 x1 x8) else (eponymref01_some.j2 k x0 x1 x8)
def eponymref01_some.j2 : Nat → Int → Int → Int → Option (Bool)
  | 0, _, _, _ => none
  | k + 1, x0, x1, x8 => if x1 > x8 then (if x0 ≥ 55296 then (if x0 ≤ 57343 then (some (decide (57344 ≤ x8))) else (some (decide (x0 ≤ x8)))) else (some (decide (x0 ≤ x8)))) else (if x0 ≥ 55296 then (if x0 ≤ 57343 then (some (decide (57344 ≤ x1))) else (some (decide (x0 ≤ x1)))) else (some (decide (x0 ≤ x1))))
end
def eponymref01_some.f (k : Nat) (a0 : Int) (a1 : Int) (a2 : Int) : Option (Bool) := if a2 = 3 then (eponymref01_some.j0 k a0 a1 a2 2048 65535) else (eponymref01_some.j0 k a0 a1 a2 128 2047)
theorem eponymref01_some.mono_l : ∀ k, (∀ y0 y1 y2 y3 y4, LeO (eponymref01_some.j0 k y0 y1 y2 y3 y4) (eponymref01_some.j0 (k + 1) y0 y1 y2 y3 y4)) ∧ (∀ y0 y1 y2 y3, LeO (eponymref01_some.j1 k y0 y1 y2 y3) (eponymref01_some.j1 (k + 1) y0 y1 y2 y3)) ∧ (∀ y0 y1 y2, LeO (eponymref01_some.j2 k y0 y1 y2) (eponymref01_some.j2 (k + 1) y0 y1 y2))
  | 0 => ⟨fun _ _ _ _ _ r h => by simp [eponymref01_some.j0] at h, fun _ _ _ _ r h => by simp [eponymref01_some.j1] at h, fun _ _ _ r h => by simp [eponymref01_some.j2] at h⟩
  | k + 1 => by
    obtain ⟨ih0, ih1, ih2⟩ := eponymref01_some.mono_l k
    refine ⟨?_, ?_, ?_⟩
    · intro y0 y1 y2 y3 y4
      unfold eponymref01_some.j0
      repeat' first
      | (with_reducible exact ih0 _ _ _ _ _)
      | (with_reducible exact ih1 _ _ _ _)
      | (with_reducible exact ih2 _ _ _)
      | (with_reducible exact LeO.refl _)
      | (with_reducible exact LeO.none _)
      | (with_reducible refine LeO.ite ?_ ?_)
      | (with_reducible refine LeO.bind ?_ (fun _ => ?_))
      | exact ih0 _ _ _ _ _
      | exact ih1 _ _ _ _
      | exact ih2 _ _ _
      | exact LeO.none _
      | refine LeO.ite ?_ ?_
      | refine LeO.bind ?_ (fun _ => ?_)
    · intro y0 y1 y2 y3
      unfold eponymref01_some.j1
      repeat' first
      | (with_reducible exact ih0 _ _ _ _ _)
      | (with_reducible exact ih1 _ _ _ _)
      | (with_reducible exact ih2 _ _ _)
      | (with_reducible exact LeO.refl _)
      | (with_reducible exact LeO.none _)
      | (with_reducible refine LeO.ite ?_ ?_)
      | (with_reducible refine LeO.bind ?_ (fun _ => ?_))
      | exact ih0 _ _ _ _ _
      | exact ih1 _ _ _ _
      | exact ih2 _ _ _
      | exact LeO.none _
      | refine LeO.ite ?_ ?_
      | refine LeO.bind ?_ (fun _ => ?_)
    · intro y0 y1 y2
      unfold eponymref01_some.j2
      repeat' first
      | (with_reducible exact ih0 _ _ _ _ _)
      | (with_reducible exact ih1 _ _ _ _)
      | (with_reducible exact ih2 _ _ _)
      | (with_reducible exact LeO.refl _)
      | (with_reducible exact LeO.none _)
      | (with_reducible refine LeO.ite ?_ ?_)
      | (with_reducible refine LeO.bind ?_ (fun _ => ?_))
      | exact ih0 _ _ _ _ _
      | exact ih1 _ _ _ _
      | exact ih2 _ _ _
      | exact LeO.none _
      | refine LeO.ite ?_ ?_
      | refine LeO.bind ?_ (fun _ => ?_)
theorem eponymref01_some.mono : ∀ a0 a1 a2 k, LeO (eponymref01_some.f k a0 a1 a2) (eponymref01_some.f (k + 1) a0 a1 a2) := by
  intro a0 a1 a2 k
  obtain ⟨ih0, ih1, ih2⟩ := eponymref01_some.mono_l k
  unfold eponymref01_some.f
  repeat' first
      | (with_reducible exact ih0 _ _ _ _ _)
      | (with_reducible exact ih1 _ _ _ _)
      | (with_reducible exact ih2 _ _ _)
      | (with_reducible exact LeO.refl _)
      | (with_reducible exact LeO.none _)
      | (with_reducible refine LeO.ite ?_ ?_)
      | (with_reducible refine LeO.bind ?_ (fun _ => ?_))
      | exact ih0 _ _ _ _ _
      | exact ih1 _ _ _ _
      | exact ih2 _ _ _
      | exact LeO.none _
      | refine LeO.ite ?_ ?_
      | refine LeO.bind ?_ (fun _ => ?_)
set_option maxHeartbeats 8000000 in
set_option maxRecDepth 100000 in
theorem eponymref01_some.calls (k : Nat) (a0 : Int) (a1 : Int) (a2 : Int) (r : Bool) (w : World) (h : eponymref01_some.f k a0 a1 a2 = some r) :
    Calls Tryd.prog 95 #[.int .i32 a0, .int .i32 a1, .int .i64 a2] w fun e w' => e = .returned (.bool r) ∧ Drawn0 w w' := by
  have H : (if a2 = 3 then (eponymref01_some.j0 k a0 a1 a2 2048 65535) else (eponymref01_some.j0 k a0 a1 a2 128 2047)) = some r := h
  clear h
  have HC4 := Aside0.mk H
  clear H
  go_enter Tryd.func95, Tryd.ntmps95
  go_upto_if 10 with (fail)
  go_cut [7, 8] (fun v7 v8 wc => ∃ (kq : Nat) (x7_3 : Int) (x8_3 : Int), v7 = .int .i32 x7_3 ∧ v8 = .int .i32 x8_3 ∧ Aside0 (eponymref01_some.j0 kq a0 a1 a2 x7_3 x8_3 = some r) ∧ Aside0 (kq ≤ k) ∧ Drawn0 w wc)
  case first =>
    have H := HC4.out
    clear HC4
    by_cases c5 : a2 = 3
    · rw [if_pos c5] at H
      have c5b0 : (a2 == 3) = true := beq_iff_eq.mpr c5
      have c5b1 : (a2 != 3) = false := bne_eq_false_iff_eq.mpr c5
      clear c5
      (first | rw [c5b0] | (simp only [i64_w, i32_w]; rw [c5b0]) | skip)
      have H' := Aside0.mk H
      clear H
      go_wp2
      go_meet
      case rel => exact ⟨_, (2048), (65535), (by first | rfl | (simp; done) | (simp [*]; done)), (by first | rfl | (simp; done) | (simp [*]; done)), H', ⟨by first | omega | exact Nat.le_refl _⟩, by repeat (first | exact Drawn0.refl _ | apply Drawn0.step)⟩
    · rw [if_neg c5] at H
      have c5b0 : (a2 == 3) = false := beq_eq_false_iff_ne.mpr c5
      have c5b1 : (a2 != 3) = true := bne_iff_ne.mpr c5
      (first | rw [c5b0] | (simp only [i64_w, i32_w]; rw [c5b0]) | skip)
      have H' := Aside0.mk H
      clear H
      go_wp2
      go_meet
      case rel => exact ⟨_, (128), (2047), (by first | rfl | (simp; done) | (simp [*]; done)), (by first | rfl | (simp; done) | (simp [*]; done)), H', ⟨by first | omega | exact Nat.le_refl _⟩, by repeat (first | exact Drawn0.refl _ | apply Drawn0.step)⟩
  case rest =>
    clear HC4
    try clear p2
    try clear c5
    try clear c5b0
    try clear c5b1
    obtain ⟨kq, x7_3, x8_3, rfl, rfl, HA, HJ3, ⟨mc3, rfl⟩⟩ := hcut
    cases kq with
    | zero => exact absurd HA.out (by simp [eponymref01_some.j0])
    | succ kj3 =>
      have H := HA.out
      clear HA
      simp only [eponymref01_some.j0] at H
      have HC6 := Aside0.mk H
      clear H
      go_upto_if 12 with (fail)
      go_cut [7, 8] (fun v7 v8 wc => ∃ (kq : Nat) (x7_5 : Int) (x8_5 : Int), v7 = .int .i32 x7_5 ∧ v8 = .int .i32 x8_5 ∧ Aside0 (eponymref01_some.j1 kq a0 a1 x7_5 x8_5 = some r) ∧ Aside0 (kq ≤ kj3) ∧ Drawn0 w wc)
      case first =>
        have H := HC6.out
        clear HC6
        by_cases c7 : a2 = 4
        · rw [if_pos c7] at H
          have c7b0 : (a2 == 4) = true := beq_iff_eq.mpr c7
          have c7b1 : (a2 != 4) = false := bne_eq_false_iff_eq.mpr c7
          clear c7
          (first | rw [c7b0] | (simp only [i64_w, i32_w]; rw [c7b0]) | skip)
          have H' := Aside0.mk H
          clear H
          go_wp2
          go_meet
          case rel => exact ⟨_, (65536), (1114111), (by first | rfl | (simp; done) | (simp [*]; done)), (by first | rfl | (simp; done) | (simp [*]; done)), H', ⟨by have := HJ3.out; first | omega | exact Nat.le_refl _⟩, by repeat (first | exact Drawn0.refl _ | apply Drawn0.step)⟩
        · rw [if_neg c7] at H
          have c7b0 : (a2 == 4) = false := beq_eq_false_iff_ne.mpr c7
          have c7b1 : (a2 != 4) = true := bne_iff_ne.mpr c7
          (first | rw [c7b0] | (simp only [i64_w, i32_w]; rw [c7b0]) | skip)
          have H' := Aside0.mk H
          clear H
          go_wp2
          go_meet
          case rel => exact ⟨_, (x7_3), (x8_3), (by first | rfl | (simp; done) | (simp [*]; done)), (by first | rfl | (simp; done) | (simp [*]; done)), H', ⟨by have := HJ3.out; first | omega | exact Nat.le_refl _⟩, by repeat (first | exact Drawn0.refl _ | apply Drawn0.step)⟩
      case rest =>
        clear HC6
        try clear p2
        try clear c3
        try clear c5
        try clear c5b0
        try clear c5b1
        try clear c7
        try clear c7b0
        try clear c7b1
        try clear p2
        obtain ⟨kq, x7_5, x8_5, rfl, rfl, HA, HJ5, ⟨mc5, rfl⟩⟩ := hcut
        cases kq with
        | zero => exact absurd HA.out (by simp [eponymref01_some.j1])
        | succ kj5 =>
          have H := HA.out
          clear HA
          simp only [eponymref01_some.j1] at H
          have HC8 := Aside0.mk H
          clear H
          go_upto_if 15 with (fail)
          go_cut [0] (fun v0 wc => ∃ (kq : Nat) (x0_7 : Int), v0 = .int .i32 x0_7 ∧ Aside0 (eponymref01_some.j2 kq x0_7 a1 x8_5 = some r) ∧ Aside0 (kq ≤ kj5) ∧ Drawn0 w wc)
          case first =>
            have H := HC8.out
            clear HC8
            by_cases c9 : a0 < x7_5
            · rw [if_pos c9] at H
              have c9b0 : decide (a0 < x7_5) = true := decide_eq_true c9
              clear c9
              (first | rw [c9b0] | (simp only [i64_w, i32_w]; rw [c9b0]) | skip)
              have H' := Aside0.mk H
              clear H
              go_wp2
              go_meet
              case rel => exact ⟨_, (x7_5), (by first | rfl | (simp; done) | (simp [*]; done)), H', ⟨by have := HJ3.out; have := HJ5.out; first | omega | exact Nat.le_refl _⟩, by repeat (first | exact Drawn0.refl _ | apply Drawn0.step)⟩
            · rw [if_neg c9] at H
              have c9b0 : decide (a0 < x7_5) = false := decide_eq_false c9
              clear c9
              (first | rw [c9b0] | (simp only [i64_w, i32_w]; rw [c9b0]) | skip)
              have H' := Aside0.mk H
              clear H
              go_wp2
              go_meet
              case rel => exact ⟨_, (a0), (by first | rfl | (simp; done) | (simp [*]; done)), H', ⟨by have := HJ3.out; have := HJ5.out; first | omega | exact Nat.le_refl _⟩, by repeat (first | exact Drawn0.refl _ | apply Drawn0.step)⟩
          case rest =>
            clear HC8
            try clear p2
            try clear c3
            try clear c5
            try clear c5b0
            try clear c5b1
            try clear c7
            try clear c7b0
            try clear c7b1
            try clear c9
            try clear c9b0
            try clear p2
            obtain ⟨kq, x0_7, rfl, HA, HJ7, ⟨mc7, rfl⟩⟩ := hcut
            cases kq with
            | zero => exact absurd HA.out (by simp [eponymref01_some.j2])
            | succ kj7 =>
              have H := HA.out
              clear HA
              simp only [eponymref01_some.j2] at H
              by_cases c10 : a1 > x8_5
              · rw [if_pos c10] at H
                have c10b0 : decide (x8_5 < a1) = true := decide_eq_true c10
                clear c10
                by_cases c11 : x0_7 ≥ 55296
                · rw [if_pos c11] at H
                  have c11b0 : decide (55296 ≤ x0_7) = true := decide_eq_true c11
                  clear c11
                  by_cases c12 : x0_7 ≤ 57343
                  · rw [if_pos c12] at H
                    have c12b0 : decide (x0_7 ≤ 57343) = true := decide_eq_true c12
                    clear c12
                    obtain rfl := Option.some.inj H
                    go_wp2
                    go_ret
                    exact ⟨by first | rfl | (simp; done) | (simp [*]; done), by repeat (first | exact Drawn0.refl _ | apply Drawn0.step)⟩
                  · rw [if_neg c12] at H
                    have c12b0 : decide (x0_7 ≤ 57343) = false := decide_eq_false c12
                    clear c12
                    obtain rfl := Option.some.inj H
                    go_wp2
                    go_ret
                    exact ⟨by first | rfl | (simp; done) | (simp [*]; done), by repeat (first | exact Drawn0.refl _ | apply Drawn0.step)⟩
                · rw [if_neg c11] at H
                  have c11b0 : decide (55296 ≤ x0_7) = false := decide_eq_false c11
                  clear c11
                  obtain rfl := Option.some.inj H
                  go_wp2
                  go_ret
                  exact ⟨by first | rfl | (simp; done) | (simp [*]; done), by repeat (first | exact Drawn0.refl _ | apply Drawn0.step)⟩
              · rw [if_neg c10] at H
                have c10b0 : decide (x8_5 < a1) = false := decide_eq_false c10
                clear c10
                by_cases c13 : x0_7 ≥ 55296
                · rw [if_pos c13] at H
                  have c13b0 : decide (55296 ≤ x0_7) = true := decide_eq_true c13
                  clear c13
                  by_cases c14 : x0_7 ≤ 57343
                  · rw [if_pos c14] at H
                    have c14b0 : decide (x0_7 ≤ 57343) = true := decide_eq_true c14
                    clear c14
                    obtain rfl := Option.some.inj H
                    go_wp2
                    go_ret
                    exact ⟨by first | rfl | (simp; done) | (simp [*]; done), by repeat (first | exact Drawn0.refl _ | apply Drawn0.step)⟩
                  · rw [if_neg c14] at H
                    have c14b0 : decide (x0_7 ≤ 57343) = false := decide_eq_false c14
                    clear c14
                    obtain rfl := Option.some.inj H
                    go_wp2
                    go_ret
                    exact ⟨by first | rfl | (simp; done) | (simp [*]; done), by repeat (first | exact Drawn0.refl _ | apply Drawn0.step)⟩
                · rw [if_neg c13] at H
                  have c13b0 : decide (55296 ≤ x0_7) = false := decide_eq_false c13
                  clear c13
                  obtain rfl := Option.some.inj H
                  go_wp2
                  go_ret
                  exact ⟨by first | rfl | (simp; done) | (simp [*]; done), by repeat (first | exact Drawn0.refl _ | apply Drawn0.step)⟩

end Go.Proofs.YtpdpgppaoipnlaaDoor.PAll
