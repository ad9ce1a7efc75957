/- What the claim uses of the text T4. -/
import Derived.Test.YtpdpgppaoipnlaaDoorVT3
import Derived.Test.YtpdpgppaoipnlaaDoorVK4
import Derived.StillTailTactics
import Derived.Test.YtpdpgppaoipnlaaDoorVUtfLaw
set_option linter.unusedVariables false
set_option linter.unusedSimpArgs false
namespace Go.Proofs.YtpdpgppaoipnlaaDoor
open Go.RowKit Go.PlainAid
open Go.Proofs.YtpdpgppaoipnlaaDoorW.PrintWords hiding bt
open Go.Proofs.YtpdpgppaoipnlaaDoorW.PrintMore

theorem quoB_step (s : ByteArray) (i : Nat) (h : i < s.size) {t t' : ByteArray} {l : List Int} (ht : t = strOfNums (34 :: quoB ((ints s).take i))) (hq : quo1 (bt s i) = l) (h' : t' = t ++ strOfNums l) : t' = strOfNums (34 :: quoB ((ints s).take (i + 1))) := by
  rw [h', ht, nums_append', quoB_take s i h, hq]
  rfl
theorem byte_is (s : ByteArray) (i : Nat) (h : i < s.size) : s.extract i (i + 1) = strOfNums [bt s i] := by
  have := ext_one s (i : Int) (by omega) (by omega)
  rw [btP, Int.toNat_natCast, show ((i : Int) + 1).toNat = i + 1 by omega] at this
  exact this
theorem app3 (t : ByteArray) (a : ByteArray) (b : ByteArray) (l m : List Int) (ha : a = strOfNums l) (hb : b = strOfNums m) : t ++ a ++ b = t ++ strOfNums (l ++ m) := by
  rw [ha, hb, ByteArray.append_assoc, nums_append']
theorem conv_one (c : Int) (W : World) : (convert 65 9 (.slice (some ⟨W.heap.size, 0, none⟩) 1 1)).run Tryd.prog (W.alloc (.cells #[.int .u8 c] 5)) = .ok (.string (strOfNums [c])) (W.alloc (.cells #[.int .u8 c] 5)) := by
  refine Kd.C_string Tryd.underlying65 Tryd.underlying5 Tryd.underlying9 (C_of_cells (enc := Value.int .u8) (h1 := fun _ => rfl) _ _ 1 [c] rfl (by omega) 0 (fun i hi => ?_))
  obtain rfl : i = 0 := by omega
  rw [Go.WideShapes.add_plain, Lib.cell_of_heap (Go.heap_alloc_new W _)]
  rfl
theorem hex_is (x : Nat) (h : x < 16) : (⟨#[48, 49, 50, 51, 52, 53, 54, 55, 56, 57, 97, 98, 99, 100, 101, 102]⟩ : ByteArray).extract x (x + 1) = strOfNums [hexl x] := by
  have key : ∀ x : Fin 16, ints ((⟨#[48, 49, 50, 51, 52, 53, 54, 55, 56, 57, 97, 98, 99, 100, 101, 102]⟩ : ByteArray).extract x.val (x.val + 1)) = [hexl x.val] := by decide +kernel
  apply ints_inj
  rw [key ⟨x, h⟩, ints_nums]
  intro y hy
  rw [List.mem_singleton.1 hy]
  exact hexl_range _ (by omega) (by omega)

set_option maxHeartbeats 4000000 in
set_option maxRecDepth 100000 in
theorem refQuote_any (s : ByteArray) (w : World) (hs : s.size ≤ 100000) :
    Calls Tryd.prog 36 #[.string s] w fun e w' => e = .returned (.string (strOfNums (quo (ints s)))) ∧ Hid (Below w.heap.size w w') := by
  have hbt := get_bt s
  have hmk : ∀ w, (Instr.makeMap 85 none).run Tryd.prog w = .ok (.map (some w.heap.size)) (w.alloc (.map #[] 0)) := fun _ => rfl
  go_enter Tryd.func36, Tryd.ntmps36
  go_wp2_with fail
  go_loopg [3, 5] s.size (fun g v3 v5 wi => ∃ (i : Nat) (t : ByteArray), v3 = .string t ∧ v5 = .int .i64 (i : Int) ∧ Hid (i + g = s.size) ∧ Hid (t = strOfNums (34 :: quoB ((ints s).take i))) ∧ t.size ≤ 1 + 6 * i ∧ Hid (Below w.heap.size w wi))
  case atStart => exact ⟨0, _, rfl, rfl, by show _ = _; omega, rfl, by decide, Below.refl _ _⟩
  case round =>
    obtain ⟨i, t, rfl, rfl, HI, HT, ht, HB⟩ := hrel
    by_cases hlt : i < s.size
    · have k3 : decide (i < s.size) = true := by simpa using hlt
      have k3' : decide ((i : Int) < (s.size : Int)) = true := decide_eq_true (by omega)
      obtain ⟨g1, rfl⟩ : ∃ g1, gk = g1 + 1 := ⟨gk - 1, by have := HI.out; omega⟩
      have n0 := bt_nonneg s i
      have n1 := bt_le s i
      have hsz1 : (s.extract i (i + 1)).size = 1 := by rw [byte_is s i hlt, strOfNums_size]; rfl
      have HQ := Lib.hid (byte_is s i hlt)
      have hi3 := hlt
      by_cases h34 : bt s i = 34 ∨ bt s i = 92
      · have hq : quo1 (bt s i) = [92] ++ [bt s i] := by unfold quo1; rw [if_pos h34]; rfl
        have HT2 := Lib.hid (quoB_step s i hlt (t' := t ++ ⟨#[92]⟩ ++ s.extract i (i + 1)) HT.out hq (app3 t _ _ [92] [bt s i] (by rfl) HQ.out))
        clear HT hq HQ
        rcases h34 with h | h
        · have k4 : (bt s i == 34) = true := by simpa using h
          go_wp2_with fail
          go_roundg g1
          case measure => omega
          case rel => exact ⟨i + 1, _, rfl, by go_num, by have := HI.out; show _ = _; omega, HT2.out, by simp only [ByteArray.size_append, hsz1]; show _ + 1 + 1 ≤ _; omega, HB.out⟩
        · have k4 : (bt s i == 34) = false := by rw [beq_eq_false_iff_ne]; omega
          have k5 : (bt s i == 92) = true := by simpa using h
          go_wp2_with fail
          go_roundg g1
          case measure => omega
          case rel => exact ⟨i + 1, _, rfl, by go_num, by have := HI.out; show _ = _; omega, HT2.out, by simp only [ByteArray.size_append, hsz1]; show _ + 1 + 1 ≤ _; omega, HB.out⟩
      · have k4 : (bt s i == 34) = false := by rw [beq_eq_false_iff_ne]; omega
        have k5 : (bt s i == 92) = false := by rw [beq_eq_false_iff_ne]; omega
        by_cases h32 : 32 ≤ bt s i
        · have k6 : decide (32 ≤ bt s i) = true := decide_eq_true h32
          have hq : quo1 (bt s i) = [bt s i] := by unfold quo1; rw [if_neg h34, if_pos h32]
          have HT2 := Lib.hid (quoB_step s i hlt (t' := t ++ s.extract i (i + 1)) HT.out hq (by rw [HQ.out]))
          clear HT hq HQ h34
          go_wp2_with fail
          go_roundg g1
          case measure => omega
          case rel => exact ⟨i + 1, _, rfl, by go_num, by have := HI.out; show _ = _; omega, HT2.out, by simp only [ByteArray.size_append, hsz1]; omega, HB.out⟩
        · have k6 : decide (32 ≤ bt s i) = false := decide_eq_false h32
          have hF0 := SeenB.made' wr
          have HF0 := Lib.hid hF0
          clear hF0
          have HBm := Lib.hid (HB.out.alloc HB.out.size (.map #[] 0))
          by_cases hsh : bt s i = 8 ∨ bt s i = 9 ∨ bt s i = 10 ∨ bt s i = 12 ∨ bt s i = 13
          · obtain ⟨c, hpl, hq, hc0, hc1⟩ : ∃ c : Int, plk [(13, 114), (12, 102), (10, 110), (9, 116), (8, 98)] (bt s i) = c ∧ quo1 (bt s i) = [92] ++ [c] ∧ 98 ≤ c ∧ c ≤ 116 := by
              rcases hsh with h | h | h | h | h <;> rw [h]
              · exact ⟨98, rfl, rfl, by omega, by omega⟩
              · exact ⟨116, rfl, rfl, by omega, by omega⟩
              · exact ⟨110, rfl, rfl, by omega, by omega⟩
              · exact ⟨102, rfl, rfl, by omega, by omega⟩
              · exact ⟨114, rfl, rfl, by omega, by omega⟩
            have k7 : decide (0 < c) = true := decide_eq_true (by omega)
            have hwu : IntKind.u8.wrap c = c := by rw [IntKind.wrap_u8]; omega
            clear hsh
            have hcv := conv_one c
            obtain ⟨sc, HSC⟩ : ∃ sc, Hid (strOfNums [c] = sc) := ⟨_, rfl⟩
            have hsc : sc.size = 1 := by rw [← HSC.out, strOfNums_size]; rfl
            rw [HSC.out] at hcv
            have HT2 := Lib.hid (quoB_step s i hlt (t' := t ++ ⟨#[92]⟩ ++ sc) HT.out hq (app3 t _ _ [92] [c] (by rfl) HSC.out.symm))
            clear HT hq HQ h34
            go_wp2_with (first | ((with_reducible refine wpl_p_put (t := ?_) (c := ?_) HF0.out (by omega) ?hx ?hy ?hv ?ht ?hc ?_); (case hx => rfl); (case hy => rfl); (case hv => rfl); (case ht => exact ⟨by omega, by omega⟩); (case hc => exact ⟨by omega, by omega⟩); intro w6 hF6 hg6; have HF0 := Lib.hid hF6; have HBm := Lib.hid (pw_below_grown HBm.out _ HBm.out.size hg6 (fun k hk => by injection hk with hk; have := HB.out.size; omega)); clear hF6 hg6) | ((with_reducible refine wpl_b_look HF0.out ⟨n0, n1⟩ ?hx ?hy ?_); (case hx => rfl); (case hy => rfl); rw [hpl]))
            have HBz := Lib.hid (HBm.out.alloc HBm.out.size (.cells #[.int .u8 c] 5))
            go_roundg g1
            case measure => omega
            case rel => exact ⟨i + 1, _, rfl, by go_num, by have := HI.out; show _ = _; omega, HT2.out, by simp only [ByteArray.size_append, hsc]; show _ + 1 + 1 ≤ _; omega, HBz.out⟩
          · have hpl : plk [(13, 114), (12, 102), (10, 110), (9, 116), (8, 98)] (bt s i) = 0 := by
              simp only [plk]
              rw [if_neg (by omega), if_neg (by omega), if_neg (by omega), if_neg (by omega), if_neg (by omega)]
            have hq : quo1 (bt s i) = [92, 117, 48, 48] ++ ([hexl (bt s i / 16)] ++ [hexl (bt s i % 16)]) := by
              unfold quo1
              rw [if_neg h34, if_neg h32, if_neg (by omega), if_neg (by omega), if_neg (by omega), if_neg (by omega), if_neg (by omega)]
              rfl
            have hx1 := hex_is (bt s i / 16).toNat (by omega)
            rw [show (((bt s i / 16).toNat : Nat) : Int) = bt s i / 16 by omega, show (bt s i / 16).toNat + 1 = (bt s i / 16 + 1).toNat by omega] at hx1
            have hx2 := hex_is (bt s i % 16).toNat (by omega)
            rw [show (((bt s i % 16).toNat : Nat) : Int) = bt s i % 16 by omega, show (bt s i % 16).toNat + 1 = (bt s i % 16 + 1).toNat by omega] at hx2
            have HT2 := Lib.hid (quoB_step s i hlt (t' := t ++ ⟨#[92, 117, 48, 48]⟩ ++ (⟨#[48, 49, 50, 51, 52, 53, 54, 55, 56, 57, 97, 98, 99, 100, 101, 102]⟩ : ByteArray).extract (bt s i / 16).toNat (bt s i / 16 + 1).toNat ++ (⟨#[48, 49, 50, 51, 52, 53, 54, 55, 56, 57, 97, 98, 99, 100, 101, 102]⟩ : ByteArray).extract (bt s i % 16).toNat (bt s i % 16 + 1).toNat) HT.out hq (by rw [hx1, hx2, show (⟨#[92, 117, 48, 48]⟩ : ByteArray) = strOfNums [92, 117, 48, 48] from rfl, ByteArray.append_assoc, nums_append', ByteArray.append_assoc, nums_append']))
            have hsz2 : ((⟨#[48, 49, 50, 51, 52, 53, 54, 55, 56, 57, 97, 98, 99, 100, 101, 102]⟩ : ByteArray).extract (bt s i / 16).toNat (bt s i / 16 + 1).toNat).size = 1 := by rw [hx1, strOfNums_size]; rfl
            have hsz3 : ((⟨#[48, 49, 50, 51, 52, 53, 54, 55, 56, 57, 97, 98, 99, 100, 101, 102]⟩ : ByteArray).extract (bt s i % 16).toNat (bt s i % 16 + 1).toNat).size = 1 := by rw [hx2, strOfNums_size]; rfl
            have HSZ2 := Lib.hid hsz2
            have HSZ3 := Lib.hid hsz3
            clear HT hq HQ h34 h32 hx1 hx2 hsz2 hsz3
            go_wp2_with (first | ((with_reducible refine wpl_p_put (t := ?_) (c := ?_) HF0.out (by omega) ?hx ?hy ?hv ?ht ?hc ?_); (case hx => rfl); (case hy => rfl); (case hv => rfl); (case ht => exact ⟨by omega, by omega⟩); (case hc => exact ⟨by omega, by omega⟩); intro w6 hF6 hg6; have HF0 := Lib.hid hF6; have HBm := Lib.hid (pw_below_grown HBm.out _ HBm.out.size hg6 (fun k hk => by injection hk with hk; have := HB.out.size; omega)); clear hF6 hg6) | ((with_reducible refine wpl_b_look HF0.out ⟨n0, n1⟩ ?hx ?hy ?_); (case hx => rfl); (case hy => rfl); rw [hpl]))
            go_quiet (fail)
            go_wp2_with fail
            go_roundg g1
            case measure => omega
            case rel => exact ⟨i + 1, _, rfl, by go_num, by have := HI.out; show _ = _; omega, HT2.out, by simp only [ByteArray.size_append, HSZ2.out, HSZ3.out]; show _ + 4 + 1 + 1 ≤ _; omega, pw_below_drewN HBm.out _⟩
    · have k3 : decide (i < s.size) = false := by simpa using hlt
      have k3' : decide ((i : Int) < (s.size : Int)) = false := decide_eq_false (by omega)
      obtain rfl : i = s.size := by have := HI.out; omega
      go_wp2_with fail
      go_ret
      refine ⟨?_, HB.out⟩
      have : t ++ (⟨#[34]⟩ : ByteArray) = strOfNums (quo (ints s)) := by
        rw [HT.out, List.take_of_length_le (by rw [ints_length]; exact Nat.le_refl _), show (⟨#[34]⟩ : ByteArray) = strOfNums [34] from rfl, nums_append']
        rfl
      rw [← this]
      rfl
end Go.Proofs.YtpdpgppaoipnlaaDoor

