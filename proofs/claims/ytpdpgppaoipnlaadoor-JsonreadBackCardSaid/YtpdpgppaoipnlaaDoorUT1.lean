/- What the claim uses of the text T1. -/
import Derived.Test.YtpdpgppaoipnlaaDoorUNA
import Derived.Test.YtpdpgppaoipnlaaDoorUK1
import Derived.Test.YtpdpgppaoipnlaaDoorURA
set_option linter.unusedVariables false
set_option linter.unusedSimpArgs false
namespace Go.Proofs.YtpdpgppaoipnlaaDoor
section
open Go.RowKit Go.Proofs.YtpdpgppaoipnlaaDoorW.PrintWords Go.Proofs.YtpdpgppaoipnlaaDoorW.PrintMore PAll

theorem ref_good (s : ByteArray) (hs : s.size ≤ 1000000) : eponymref12_good.f (s.size + 401) s = some (goodT s) := by
  unfold eponymref12_good.f
  rw [ref_decode s hs]
  show some _ = some _
  congr 1
theorem good_any (s : ByteArray) (w : World) (hs : s.size ≤ 1000000) :
    Calls Tryd.prog 118 #[.string s] w fun e w' => e = .returned (.bool (goodT s)) ∧ Hid (Below w.heap.size w w') := by
  refine (eponymref12_good.calls _ s _ w (ref_good s hs)).mono ?_
  rintro e w' ⟨rfl, h⟩
  exact ⟨rfl, h⟩

theorem ref_digits_l (s : ByteArray) (hs : s.size ≤ 1000000) (at_ : Nat) (k : Nat) : ∀ (d n : Nat), at_ + n ≤ s.size → s.size - (at_ + n) = d → eponymref12_digits.l0 (k + d + 1) s at_ n = some ((dgs s (at_ + n) : Int) - at_)
  | d, n, hle, hd => by
    have hw : wrap64 ((at_ : Int) + (n : Int)) = ((at_ + n : Nat) : Int) := by rw [w64 (by omega) (by omega)]; omega
    have hw1 : wrap64 ((n : Int) + 1) = ((n + 1 : Nat) : Int) := by rw [w64 (by omega) (by omega)]; omega
    have hb : bt s ((at_ + n : Nat) : Int) = PlainAid.bt s (at_ + n) := by rw [btP, Int.toNat_natCast]
    unfold eponymref12_digits.l0
    rw [hw, hw1, hb]
    cases hdg : digAt s (at_ + n) with
    | true =>
      have hlt := digAt_lt hdg
      have h48 : 48 ≤ PlainAid.bt s (at_ + n) ∧ PlainAid.bt s (at_ + n) ≤ 57 := by unfold digAt isDig at hdg; simp at hdg; exact hdg.2
      rw [if_pos (by omega), if_pos (by omega), if_pos (by omega), if_pos (by omega)]
      cases d with
      | zero => omega
      | succ d =>
        have := ref_digits_l s hs at_ k d (n + 1) (by omega) (by omega)
        rw [show k + (d + 1) = k + d + 1 by omega, this, show at_ + (n + 1) = at_ + n + 1 by omega, wdgs_more s _ hdg]
    | false =>
      rw [wdgs_stop s _ hdg]
      have he : some (n : Int) = some (((at_ + n : Nat) : Int) - (at_ : Int)) := by congr 1; omega
      rw [← he]
      by_cases h1 : at_ + n < s.size
      · rw [if_pos (by omega), if_pos (by omega)]
        unfold digAt isDig at hdg
        rw [decide_eq_true h1, Bool.true_and] at hdg
        by_cases h2 : 48 ≤ PlainAid.bt s (at_ + n)
        · rw [if_pos (by omega), if_neg (by simp [h2] at hdg; omega)]
        · rw [if_neg (by omega)]
      · rw [if_neg (by omega)]
  termination_by d => d
theorem digits_any (s : ByteArray) (i : Nat) (I : Int) (w : World) (hI : I = i) (hs : s.size ≤ 1000000) (hi : i ≤ s.size) :
    Calls Tryd.prog 74 #[.string s, .int .i64 I] w fun e w' => e = .returned (.int .i64 ((dgs s i : Int) - i)) ∧ Hid (Below w.heap.size w w') := by
  subst hI
  have h : eponymref12_digits.f (0 + (s.size - i) + 1) s i = some ((dgs s i : Int) - i) := by
    have := ref_digits_l s hs i 0 (s.size - i) 0 (by omega) (by omega)
    exact this
  refine (eponymref12_digits.calls _ s i _ w h).mono ?_
  rintro e w' ⟨rfl, hd⟩
  exact ⟨rfl, hd.below⟩
end
section
/-- A text's digits from a place on: how many there are. -/
theorem dgs_nat (s : ByteArray) (i : Nat) (h : i ≤ s.size) : ∃ n : Nat, dgs s i = i + n ∧ i + n ≤ s.size ∧ (digAt s i = false → n = 0) ∧ (digAt s i = true → 1 ≤ n) := by
  have h1 := dgs_le s i h
  refine ⟨dgs s i - i, by omega, by omega, fun hd => ?_, fun hd => ?_⟩
  · rw [wdgs_stop s i hd]; omega
  · have := dgs_lt s i hd; omega
end
section
open Go.RowKit Go.PlainAid
open Go.Proofs.YtpdpgppaoipnlaaDoorW.PrintWords hiding bt
open Go.Proofs.YtpdpgppaoipnlaaDoorW.PrintMore
theorem wrt_lead (s : ByteArray) (i0 : Nat) (h1 : digAt s i0 = true) (h2 : isAt s i0 48 = true) (h3 : i0 + 1 < dgs s i0) : wrt1 s i0 = false := by
  have hd : digAt s (i0 + 1) = true := by
    cases hd : digAt s (i0 + 1) with
    | true => rfl
    | false => rw [← wdgs_more s i0 h1, wdgs_stop s _ hd] at h3; omega
  have hl := digAt_lt hd
  have hb : 48 ≤ bt s (i0 + 1) ∧ bt s (i0 + 1) ≤ 57 := by unfold digAt isDig at hd; simp at hd; exact hd.2
  have hn : ∀ c : Int, (c < 48 ∨ 57 < c) → isAt s (i0 + 1) c = false := by
    intro c hc
    unfold isAt
    rw [decide_eq_false (show ¬ bt s (i0 + 1) = c by omega), Bool.and_false]
  unfold wrt1 wrt2 wrt3
  rw [if_neg (by rw [h1]; simp), if_pos h2, hn 46 (by omega), if_neg (by simp)]
  simp only [Bool.false_eq_true, if_false]
  rw [hn 101 (by omega), hn 69 (by omega), if_neg (by simp), decide_eq_false (by omega)]
set_option maxHeartbeats 4000000 in
set_option maxRecDepth 100000 in
theorem refWritten_any (s : ByteArray) (w : World) (hl : s.size ≤ 1000000) :
    Calls Tryd.prog 38 #[.string s] w fun e w' => e = .returned (.bool (wrt s)) ∧ Hid (Below w.heap.size w w') := by
  have hbt := get_bt s
  have HDG : Hid (∀ (k n : Nat), k ≤ s.size → dgs s k = k + n → ∀ (I : Int) (W : World), I = (k : Int) → Calls Tryd.prog 74 #[.string s, .int .i64 I] W fun e w' => e = .returned (.int .i64 (n : Int)) ∧ Hid (Below W.heap.size W w')) := fun k n hk hn I W hI => by
    have := digits_any s k I W hI hl hk
    rw [show ((dgs s k : Int) - (k : Int)) = (n : Int) by omega] at this
    exact this
  obtain ⟨z0, Hz0⟩ : ∃ z, Hid (isAt s 0 45 = z) := ⟨_, rfl⟩
  obtain ⟨i0, Hi0⟩ : ∃ i0 : Nat, Hid ((if isAt s 0 45 = true then 1 else 0) = i0) := ⟨_, rfl⟩
  have hi0 : i0 ≤ s.size := by
    rw [← Hi0.out]; split
    · have := (isAt_lt (by assumption : isAt s 0 45 = true)).1; omega
    · omega
  have HW0 : Hid (wrt s = wrt1 s i0) := by show _ = _; rw [wrt_eq, Hi0.out]
  go_enter Tryd.func38, Tryd.ntmps38
  go_upto_region 2 with (fail)
  go_cut [14] (fun v wq => v = .bool z0 ∧ wq = w)
  case first =>
    by_cases hlt : 0 < s.size
    · have hlt0 := hlt
      have k0 : decide (0 < s.size) = true := decide_eq_true (by omega)
      have k0' : decide (((0 : Nat) : Int) < ((s.size : Nat) : Int)) = true := decide_eq_true (by omega)
      by_cases h45 : bt s (0) = 45
      · have k45 : (bt s (0) == 45) = true := by simpa using h45
        go_wp2_with fail
        (try (go_quiet (fail); go_wp2_with fail))
        go_meet
        case rel => exact ⟨by rw [← Hz0.out]; simp [isAt, hlt, h45], rfl⟩
      · have k45 : (bt s (0) == 45) = false := by simpa using h45
        go_wp2_with fail
        (try (go_quiet (fail); go_wp2_with fail))
        go_meet
        case rel => exact ⟨by rw [← Hz0.out]; simp [isAt, hlt, h45], rfl⟩
    · have hlt0 := hlt
      have k0 : decide (0 < s.size) = false := decide_eq_false (by omega)
      have k0' : decide (((0 : Nat) : Int) < ((s.size : Nat) : Int)) = false := decide_eq_false (by omega)
      go_wp2_with fail
      (try (go_quiet (fail); go_wp2_with fail))
      go_meet
      case rel => exact ⟨by rw [← Hz0.out]; simp [isAt, hlt], rfl⟩
  case rest =>
    obtain ⟨rfl, hwq⟩ := hcut
    replace hwq := hwq.symm
    subst hwq
    go_upto_if 14 with (fail)
    go_cut [3] (fun v wq => v = .int .i64 (i0 : Nat) ∧ wq = w)
    case first =>
      cases z0 with
      | true =>
        go_wp2
        go_meet
        case rel => exact ⟨by rw [← Hi0.out, Hz0.out, if_pos rfl]; rfl, rfl⟩
      | false =>
        go_wp2
        go_meet
        case rel => exact ⟨by rw [← Hi0.out, Hz0.out, if_neg (by simp)]; rfl, rfl⟩
    case rest =>
      obtain ⟨rfl, hwq⟩ := hcut
      replace hwq := hwq.symm
      subst hwq
      obtain ⟨n0, hn0, hn1, hn2, hn3⟩ := dgs_nat s i0 hi0
      have H1 := Lib.hid (fun (I : Int) W => HDG.out i0 n0 hi0 hn0 I W)
      cases hd0 : digAt s i0 with
      | false =>
        have HN : Hid (wrt s = false) := by show _ = _; rw [HW0.out]; unfold wrt1; rw [if_pos hd0]
        obtain rfl := hn2 hd0
        clear hd0
        go_wp2_with (first | (go_at_call 74; refine (H1.out _ _ (by go_num)).mono ?_; rintro e wd ⟨rfl, hbd⟩))
        go_ret
        exact ⟨by rw [HN.out]; rfl, hbd⟩
      | true =>
        have hn3 := hn3 hd0
        have hi0l := digAt_lt hd0
        have HD0 := Lib.hid hd0
        clear hd0 hn2
        have kn : ((n0 : Int) == 0) = false := by simp; omega
        have kn' : (n0 == 0) = false := by simp; omega
        by_cases hlead : isAt s i0 48 = true ∧ 1 < n0
        · have HN : Hid (wrt s = false) := by show _ = _; rw [HW0.out]; exact wrt_lead s i0 HD0.out hlead.1 (by omega)
          have h1 := hlead.2
          have k1 : decide (1 < n0) = true := decide_eq_true (by omega)
          have k1' : decide (((1 : Nat) : Int) < ((n0 : Nat) : Int)) = true := decide_eq_true (by omega)
          have k2 : (bt s i0 == 48) = true := by have := (isAt_lt hlead.1).2; simpa using this
          clear hlead
          go_wp2_with (first | (go_at_call 74; refine (H1.out _ _ (by go_num)).mono ?_; rintro e wd ⟨rfl, hbd⟩))
          (try (go_quiet (fail); go_wp2_with fail))
          go_ret
          exact ⟨by rw [HN.out]; rfl, hbd⟩
        obtain ⟨i1, Hi1⟩ : ∃ i1 : Nat, Hid (i0 + n0 = i1) := ⟨_, rfl⟩
        have HW1 : Hid (wrt s = wrt2 s i1) := by
          show _ = _
          rw [HW0.out]; unfold wrt1; rw [if_neg (by rw [HD0.out]; simp)]; congr 1
          rw [← Hi1.out]
          by_cases h : isAt s i0 48 = true
          · rw [if_pos h]; have : ¬ 1 < n0 := fun h2 => hlead ⟨h, h2⟩; omega
          · rw [if_neg h]; exact hn0
        have hi1 : i1 ≤ s.size := by rw [← Hi1.out]; exact hn1
        have HLD := Lib.hid hlead
        clear hlead
        go_upto_region 5 with (first | (go_at_call 74; refine (H1.out _ _ (by go_num)).mono ?_; rintro e wd ⟨rfl, hbd⟩))
        have HB1 := hbd
        clear hbd H1
        go_cut [29] (fun v wq => v = .bool false ∧ wq = wd)
        case first =>
          by_cases h1 : 1 < n0
          · have h1o := h1
            have k1 : decide (1 < n0) = true := decide_eq_true (by omega)
            have k1' : decide (((1 : Nat) : Int) < ((n0 : Nat) : Int)) = true := decide_eq_true (by omega)
            have k2 : (bt s i0 == 48) = false := by
              rw [beq_eq_false_iff_ne]
              intro h; exact HLD.out ⟨by unfold isAt; simp [hi0l, h], h1⟩
            go_wp2_with fail
            (try (go_quiet (fail); go_wp2_with fail))
            go_meet
            case rel => exact ⟨rfl, rfl⟩
          · have h1o := h1
            have k1 : decide (1 < n0) = false := decide_eq_false (by omega)
            have k1' : decide (((1 : Nat) : Int) < ((n0 : Nat) : Int)) = false := decide_eq_false (by omega)
            go_wp2_with fail
            (try (go_quiet (fail); go_wp2_with fail))
            go_meet
            case rel => exact ⟨rfl, rfl⟩
        case rest =>
          obtain ⟨rfl, hwq⟩ := hcut
          replace hwq := hwq.symm
          subst hwq
          clear kn kn' HLD HW0 HD0
          obtain ⟨z1, Hz1⟩ : ∃ z, Hid (isAt s (i0 + n0) 46 = z) := ⟨_, rfl⟩
          go_upto_region 8 with (fail)
          go_cut [3, 42] (fun v3 v wq => v3 = .int .i64 (i1 : Nat) ∧ v = .bool z1 ∧ wq = wd)
          case first =>
            by_cases hlt : i0 + n0 < s.size
            · have hlt0 := hlt
              have k0 : decide (i0 + n0 < s.size) = true := decide_eq_true (by omega)
              have k0' : decide ((i0 : Int) + (n0 : Int) < ((s.size : Nat) : Int)) = true := decide_eq_true (by omega)
              by_cases h46 : bt s (i0 + n0) = 46
              · have k46 : (bt s (i0 + n0) == 46) = true := by simpa using h46
                go_wp2_with fail
                (try (go_quiet (fail); go_wp2_with fail))
                go_meet
                case rel => exact ⟨by rw [← Hi1.out]; go_num, by rw [← Hz1.out]; simp [isAt, hlt, h46], rfl⟩
              · have k46 : (bt s (i0 + n0) == 46) = false := by simpa using h46
                go_wp2_with fail
                (try (go_quiet (fail); go_wp2_with fail))
                go_meet
                case rel => exact ⟨by rw [← Hi1.out]; go_num, by rw [← Hz1.out]; simp [isAt, hlt, h46], rfl⟩
            · have hlt0 := hlt
              have k0 : decide (i0 + n0 < s.size) = false := decide_eq_false (by omega)
              have k0' : decide ((i0 : Int) + (n0 : Int) < ((s.size : Nat) : Int)) = false := decide_eq_false (by omega)
              go_wp2_with fail
              (try (go_quiet (fail); go_wp2_with fail))
              go_meet
              case rel => exact ⟨by rw [← Hi1.out]; go_num, by rw [← Hz1.out]; simp [isAt, hlt], rfl⟩
          case rest =>
            obtain ⟨rfl, rfl, hwq⟩ := hcut
            replace hwq := hwq.symm
            subst hwq
            rw [Hi1.out] at Hz1
            clear Hi1 hn0 hn1 hn3 hi0l Hi0 Hz0 hi0
            by_cases hbad : isAt s i1 46 = true ∧ digAt s (i1 + 1) = false
            · have HN : Hid (wrt s = false) := by show _ = _; rw [HW1.out]; unfold wrt2; rw [if_pos hbad]
              obtain rfl : z1 = true := by rw [← Hz1.out]; exact hbad.1
              have hl1 := (isAt_lt hbad.1).1
              obtain ⟨n1, hm0, hm1, hm2, hm3⟩ := dgs_nat s (i1 + 1) (by omega)
              obtain rfl := hm2 hbad.2
              have H2 := Lib.hid (fun (I : Int) W => HDG.out (i1 + 1) 0 (by omega) hm0 I W)
              clear hbad
              go_wp2_with (first | (go_at_call 74; refine (H2.out _ _ (by go_num)).mono ?_; rintro e wd ⟨rfl, hbd⟩))
              go_ret
              exact ⟨by rw [HN.out]; rfl, below_then HB1.out HB1.out.size hbd.out⟩
            obtain ⟨i2, Hi2⟩ : ∃ i2 : Nat, Hid ((if isAt s i1 46 = true then dgs s (i1 + 1) else i1) = i2) := ⟨_, rfl⟩
            have hi2 : i2 ≤ s.size := by
              rw [← Hi2.out]
              split
              · have := (isAt_lt (by assumption : isAt s i1 46 = true)).1
                have := dgs_le s (i1 + 1) (by omega)
                omega
              · omega
            have HW2 : Hid (wrt s = wrt3 s i2) := by show _ = _; rw [HW1.out]; unfold wrt2; rw [if_neg hbad, Hi2.out]
            have HNB := Lib.hid hbad
            clear hbad HW1
            go_upto_if 42 with (fail)
            go_cut [3] (fun v wq => v = .int .i64 (i2 : Nat) ∧ Hid (Below w.heap.size w wq))
            case first =>
              cases z1 with
              | false =>
                go_wp2
                go_meet
                case rel => exact ⟨by rw [← Hi2.out, Hz1.out, if_neg (by simp)], HB1⟩
              | true =>
                have hl1 := (isAt_lt Hz1.out).1
                obtain ⟨n1, hm0, hm1, hm2, hm3⟩ := dgs_nat s (i1 + 1) (by omega)
                have hd2 : digAt s (i1 + 1) = true := by
                  cases h : digAt s (i1 + 1) with
                  | true => rfl
                  | false => exact absurd ⟨Hz1.out, h⟩ HNB.out
                have hm3 := hm3 hd2
                have H2 := Lib.hid (fun (I : Int) W => HDG.out (i1 + 1) n1 (by omega) hm0 I W)
                clear hd2 hm2
                have kn : ((n1 : Int) == 0) = false := by simp; omega
                have kn' : (n1 == 0) = false := by simp; omega
                go_wp2_with (first | (go_at_call 74; refine (H2.out _ _ (by go_num)).mono ?_; rintro e wd ⟨rfl, hbd⟩))
                go_meet
                case rel => exact ⟨by rw [← Hi2.out, Hz1.out, if_pos rfl, hm0]; go_num, below_then HB1.out HB1.out.size hbd.out⟩
            case rest =>
              obtain ⟨rfl, HB2⟩ := hcut
              clear HB1 Hz1 Hi2 HNB hi1
              obtain ⟨z2, Hz2⟩ : ∃ z, Hid ((isAt s i2 101 || isAt s i2 69) = z) := ⟨_, rfl⟩
              obtain ⟨w2, hw2⟩ : ∃ w2 : World, w2 = wc := ⟨_, rfl⟩
              rw [← hw2] at HB2 ⊢
              clear hw2 wc
              go_upto_region 13 with (fail)
              go_cut [68] (fun v wq => v = .bool z2 ∧ wq = w2)
              case first =>
                by_cases hlt : i2 < s.size
                · have hlt0 := hlt
                  have k0 : decide (i2 < s.size) = true := decide_eq_true (by omega)
                  have k0' : decide (((i2 : Nat) : Int) < ((s.size : Nat) : Int)) = true := decide_eq_true (by omega)
                  by_cases h101 : bt s (i2) = 101
                  · have k101 : (bt s (i2) == 101) = true := by simpa using h101
                    go_wp2_with fail
                    (try (go_quiet (fail); go_wp2_with fail))
                    go_meet
                    case rel => exact ⟨by rw [← Hz2.out]; simp [isAt, hlt, h101], rfl⟩
                  · have k101 : (bt s (i2) == 101) = false := by simpa using h101
                    by_cases h69 : bt s (i2) = 69
                    · have k69 : (bt s (i2) == 69) = true := by simpa using h69
                      go_wp2_with fail
                      (try (go_quiet (fail); go_wp2_with fail))
                      go_meet
                      case rel => exact ⟨by rw [← Hz2.out]; simp [isAt, hlt, h101, h69], rfl⟩
                    · have k69 : (bt s (i2) == 69) = false := by simpa using h69
                      go_wp2_with fail
                      (try (go_quiet (fail); go_wp2_with fail))
                      go_meet
                      case rel => exact ⟨by rw [← Hz2.out]; simp [isAt, hlt, h101, h69], rfl⟩
                · have hlt0 := hlt
                  have k0 : decide (i2 < s.size) = false := decide_eq_false (by omega)
                  have k0' : decide (((i2 : Nat) : Int) < ((s.size : Nat) : Int)) = false := decide_eq_false (by omega)
                  go_wp2_with fail
                  (try (go_quiet (fail); go_wp2_with fail))
                  go_meet
                  case rel => exact ⟨by rw [← Hz2.out]; simp [isAt, hlt], rfl⟩
              case rest =>
                obtain ⟨rfl, hwq⟩ := hcut
                replace hwq := hwq.symm
                subst hwq
                cases z2 with
                | false =>
                  have HW3 : Hid (wrt s = decide (i2 = s.size)) := by show _ = _; rw [HW2.out]; unfold wrt3; rw [if_neg (by have := Hz2.out; simp at this; simp [this])]
                  clear HW2 Hz2 HDG
                  by_cases hfin : i2 = s.size
                  · have kf : ((i2) == s.size) = true := by simpa using hfin
                    have kf' : (((i2 : Nat) : Int) == (s.size : Int)) = true := by rw [beq_iff_eq]; omega
                    have kf2 : decide (i2 = s.size) = true := by simpa using hfin
                    have HN : Hid (wrt s = true) := by show _ = _; rw [HW3.out, kf2]
                    clear kf2 HW3
                    go_wp2_with fail
                    go_ret
                    exact ⟨by rw [HN.out]; first | rfl | (simp [hfin]; done), HB2⟩
                  · have kf : ((i2) == s.size) = false := by simpa using hfin
                    have kf' : (((i2 : Nat) : Int) == (s.size : Int)) = false := by rw [beq_eq_false_iff_ne]; omega
                    have kf2 : decide (i2 = s.size) = false := by simpa using hfin
                    have HN : Hid (wrt s = false) := by show _ = _; rw [HW3.out, kf2]
                    clear kf2 HW3
                    go_wp2_with fail
                    go_ret
                    exact ⟨by rw [HN.out]; first | rfl | (simp [hfin]; done), HB2⟩
                | true =>
                  have hex : isAt s i2 101 = true ∨ isAt s i2 69 = true := by have := Hz2.out; simpa using this
                  have hl2 : i2 < s.size := by rcases hex with h | h <;> exact (isAt_lt h).1
                  obtain ⟨i3, Hi3⟩ : ∃ i3 : Nat, Hid ((if isAt s (i2 + 1) 43 = true ∨ isAt s (i2 + 1) 45 = true then i2 + 2 else i2 + 1) = i3) := ⟨_, rfl⟩
                  have hi3 : i3 ≤ s.size := by
                    rw [← Hi3.out]
                    split
                    · have : i2 + 1 < s.size := by
                        rcases (by assumption : isAt s (i2 + 1) 43 = true ∨ isAt s (i2 + 1) 45 = true) with h | h <;> exact (isAt_lt h).1
                      omega
                    · omega
                  have HW3 : Hid (wrt s = if digAt s i3 = false then false else decide (dgs s i3 = s.size)) := by show _ = _; rw [HW2.out]; unfold wrt3; rw [if_pos hex, Hi3.out]
                  clear hex HW2 Hz2
                  obtain ⟨j2, hj2⟩ : ∃ j2, j2 = i2 + 1 := ⟨_, rfl⟩
                  obtain ⟨z3, Hz3⟩ : ∃ z, Hid ((isAt s (i2 + 1) 43 || isAt s (i2 + 1) 45) = z) := ⟨_, rfl⟩
                  go_upto_region 15 with (fail)
                  go_cut [3, 86] (fun v3 v wq => v3 = .int .i64 (j2 : Nat) ∧ v = .bool z3 ∧ wq = w2)
                  case first =>
                    by_cases hlt : i2 + 1 < s.size
                    · have hlt0 := hlt
                      have k0 : decide (i2 + 1 < s.size) = true := decide_eq_true (by omega)
                      have k0' : decide ((i2 : Int) + 1 < ((s.size : Nat) : Int)) = true := decide_eq_true (by omega)
                      by_cases h43 : bt s (i2 + 1) = 43
                      · have k43 : (bt s (i2 + 1) == 43) = true := by simpa using h43
                        go_wp2_with fail
                        (try (go_quiet (fail); go_wp2_with fail))
                        go_meet
                        case rel => exact ⟨by rw [hj2]; go_num, by rw [← Hz3.out]; simp [isAt, hlt, h43], rfl⟩
                      · have k43 : (bt s (i2 + 1) == 43) = false := by simpa using h43
                        by_cases h45 : bt s (i2 + 1) = 45
                        · have k45 : (bt s (i2 + 1) == 45) = true := by simpa using h45
                          go_wp2_with fail
                          (try (go_quiet (fail); go_wp2_with fail))
                          go_meet
                          case rel => exact ⟨by rw [hj2]; go_num, by rw [← Hz3.out]; simp [isAt, hlt, h43, h45], rfl⟩
                        · have k45 : (bt s (i2 + 1) == 45) = false := by simpa using h45
                          go_wp2_with fail
                          (try (go_quiet (fail); go_wp2_with fail))
                          go_meet
                          case rel => exact ⟨by rw [hj2]; go_num, by rw [← Hz3.out]; simp [isAt, hlt, h43, h45], rfl⟩
                    · have hlt0 := hlt
                      have k0 : decide (i2 + 1 < s.size) = false := decide_eq_false (by omega)
                      have k0' : decide ((i2 : Int) + 1 < ((s.size : Nat) : Int)) = false := decide_eq_false (by omega)
                      go_wp2_with fail
                      (try (go_quiet (fail); go_wp2_with fail))
                      go_meet
                      case rel => exact ⟨by rw [hj2]; go_num, by rw [← Hz3.out]; simp [isAt, hlt], rfl⟩
                  case rest =>
                    obtain ⟨rfl, rfl, hwq⟩ := hcut
                    replace hwq := hwq.symm
                    subst hwq
                    rw [← hj2] at Hz3
                    go_upto_if 86 with (fail)
                    go_cut [3] (fun v wq => v = .int .i64 (i3 : Nat) ∧ wq = w2)
                    case first =>
                      cases z3 with
                      | true =>
                        go_wp2
                        go_meet
                        case rel => exact ⟨by rw [← Hi3.out, if_pos (by have := Hz3.out; rw [hj2] at this; simpa using this)]; first | go_num | (rw [hj2]; go_num), rfl⟩
                      | false =>
                        go_wp2
                        go_meet
                        case rel => exact ⟨by rw [← Hi3.out, if_neg (by have := Hz3.out; rw [hj2] at this; simp at this; simp [this])]; first | go_num | (rw [hj2]; done) | (rw [hj2]; go_num), rfl⟩
                    case rest =>
                      obtain ⟨rfl, hwq⟩ := hcut
                      replace hwq := hwq.symm
                      subst hwq
                      clear Hi3 Hz3 hj2 hl2 hi2
                      obtain ⟨n3, hm0, hm1, hm2, hm3⟩ := dgs_nat s i3 hi3
                      have H3 := Lib.hid (fun (I : Int) W => HDG.out i3 n3 hi3 hm0 I W)
                      cases hd3 : digAt s i3 with
                      | false =>
                        have HN : Hid (wrt s = false) := by show _ = _; rw [HW3.out, if_pos hd3]
                        obtain rfl := hm2 hd3
                        clear hd3
                        go_wp2_with (first | (go_at_call 74; refine (H3.out _ _ (by go_num)).mono ?_; rintro e wd ⟨rfl, hbd⟩))
                        go_ret
                        exact ⟨by rw [HN.out]; rfl, below_then HB2.out HB2.out.size hbd.out⟩
                      | true =>
                        have hm3 := hm3 hd3
                        have HW4 : Hid (wrt s = decide (i3 + n3 = s.size)) := by show _ = _; rw [HW3.out, if_neg (by rw [hd3]; simp), hm0]
                        clear hd3 hm2 HW3
                        have kn : ((n3 : Int) == 0) = false := by simp; omega
                        have kn' : (n3 == 0) = false := by simp; omega
                        go_upto_region 21 with (first | (go_at_call 74; refine (H3.out _ _ (by go_num)).mono ?_; rintro e wd ⟨rfl, hbd⟩))
                        by_cases hfin : i3 + n3 = s.size
                        · have kf : ((i3 + n3) == s.size) = true := by simpa using hfin
                          have kf' : ((i3 : Int) + (n3 : Int) == (s.size : Int)) = true := by rw [beq_iff_eq]; omega
                          have kf2 : decide (i3 + n3 = s.size) = true := by simpa using hfin
                          have HN : Hid (wrt s = true) := by show _ = _; rw [HW4.out, kf2]
                          clear kf2 HW4
                          go_wp2_with fail
                          go_ret
                          exact ⟨by rw [HN.out]; first | rfl | (simp [hfin]; done), below_then HB2.out HB2.out.size hbd.out⟩
                        · have kf : ((i3 + n3) == s.size) = false := by simpa using hfin
                          have kf' : ((i3 : Int) + (n3 : Int) == (s.size : Int)) = false := by rw [beq_eq_false_iff_ne]; omega
                          have kf2 : decide (i3 + n3 = s.size) = false := by simpa using hfin
                          have HN : Hid (wrt s = false) := by show _ = _; rw [HW4.out, kf2]
                          clear kf2 HW4
                          go_wp2_with fail
                          go_ret
                          exact ⟨by rw [HN.out]; first | rfl | (simp [hfin]; done), below_then HB2.out HB2.out.size hbd.out⟩
end
end Go.Proofs.YtpdpgppaoipnlaaDoor

