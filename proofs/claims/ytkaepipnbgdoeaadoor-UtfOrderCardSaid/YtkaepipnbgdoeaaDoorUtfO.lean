/- Encoded texts stand byte by byte in the order of their runes; the statement UtfOrder's walk. -/
import Derived.Test.YtkaepipnbgdoeaaDoorUtfX
set_option linter.unusedVariables false
set_option linter.unusedSimpArgs false
namespace Go.Proofs.YtkaepipnbgdoeaaDoor
open Go.RowKit Go.Proofs.YtkaepipnbgdoeaaDoorW.PrintWords Go.Proofs.YtkaepipnbgdoeaaDoorW.PrintMore PAll

/-- Is a row of numbers ahead of another? -/
def intsLess : List Int → List Int → Bool
  | _, [] => false
  | [], _ :: _ => true
  | a :: x, b :: y => decide (a < b) || (decide (a = b) && intsLess x y)

theorem bytesLess_map : ∀ x y : List UInt8, Op.bytesLess x y = intsLess (x.map fun b => (b.toNat : Int)) (y.map fun b => (b.toNat : Int))
  | _, [] => by simp [Op.bytesLess, intsLess]
  | [], _ :: _ => by simp [Op.bytesLess, intsLess]
  | a :: x, b :: y => by
    have e1 : decide (a < b) = decide ((a.toNat : Int) < (b.toNat : Int)) := by
      rw [Bool.eq_iff_iff]; simp [UInt8.lt_iff_toNat_lt]
    have e2 : (a == b) = decide ((a.toNat : Int) = (b.toNat : Int)) := by
      rw [Bool.eq_iff_iff]; simp [← UInt8.toNat_inj]; omega
    simp only [Op.bytesLess, intsLess, List.map_cons]
    rw [e1, e2, bytesLess_map x y]
theorem bytesLess_ints (s t : ByteArray) : Op.bytesLess s.toList t.toList = intsLess (ints s) (ints t) := by
  rw [ByteArray.toList_eq, ByteArray.toList_eq, bytesLess_map]; rfl

theorem intsLess_pre (p x y : List Int) : intsLess (p ++ x) (p ++ y) = intsLess x y := by
  induction p with
  | nil => rfl
  | cons a p ih => simp [intsLess, ih]
theorem intsLess_self (x : List Int) : intsLess x x = false := by
  have := intsLess_pre x [] []
  simpa [intsLess] using this

theorem less1 {a b : Int} {x y : List Int} (h : a < b) : intsLess (a :: x) (b :: y) = true ∧ intsLess (b :: y) (a :: x) = false := by
  constructor <;> simp [intsLess] <;> omega
theorem less2 {a b c d : Int} {x y : List Int} (h : a < b ∨ a = b ∧ c < d) : intsLess (a :: c :: x) (b :: d :: y) = true ∧ intsLess (b :: d :: y) (a :: c :: x) = false := by
  rcases h with h | ⟨rfl, h⟩
  · exact less1 h
  · have := less1 (x := x) (y := y) h
    constructor
    · simp [intsLess] at *; omega
    · simp [intsLess] at *; omega
theorem less_cons {a : Int} {x y : List Int} (h : intsLess x y = true ∧ intsLess y x = false) : intsLess (a :: x) (a :: y) = true ∧ intsLess (a :: y) (a :: x) = false := by
  constructor
  · simp [intsLess, h.1]
  · simp [intsLess, h.2]

theorem formL_less (r s : Int) (x y : List Int) (hr : utfRight r = true) (hs : utfRight s = true) (h : r < s) :
    intsLess (formL r ++ x) (formL s ++ y) = true ∧ intsLess (formL s ++ y) (formL r ++ x) = false := by
  rw [utfRight_iff] at hr hs
  by_cases c1 : s < 128
  · rw [formL_1 r (by omega), formL_1 s c1]; exact less1 h
  by_cases c2 : s < 2048
  · rw [formL_2 s (by omega) c2]
    by_cases d1 : r < 128
    · rw [formL_1 r d1]; exact less1 (by omega)
    · rw [formL_2 r (by omega) (by omega)]; exact less2 (by omega)
  by_cases c3 : s < 65536
  · rw [formL_3 s (by omega) c3]
    by_cases d1 : r < 128
    · rw [formL_1 r d1]; exact less1 (by omega)
    by_cases d2 : r < 2048
    · rw [formL_2 r (by omega) d2]; exact less1 (by omega)
    · rw [formL_3 r (by omega) (by omega)]
      by_cases e : 224 + r / 4096 = 224 + s / 4096
      · simp only [List.cons_append, e]
        exact less_cons (less2 (by omega))
      · exact less1 (by omega)
  · rw [formL_4 s (by omega)]
    by_cases d1 : r < 128
    · rw [formL_1 r d1]; exact less1 (by omega)
    by_cases d2 : r < 2048
    · rw [formL_2 r (by omega) d2]; exact less1 (by omega)
    by_cases d3 : r < 65536
    · rw [formL_3 r (by omega) d3]; exact less1 (by omega)
    · rw [formL_4 r (by omega)]
      by_cases e : 240 + r / 262144 = 240 + s / 262144
      · simp only [List.cons_append, e]
        by_cases e2 : 128 + r / 4096 % 64 = 128 + s / 4096 % 64
        · simp only [e2]
          exact less_cons (less_cons (less2 (by omega)))
        · exact less_cons (less1 (by omega))
      · exact less1 (by omega)

theorem encL_cons (a : Int) (l : List Int) : encL (a :: l) = formL a ++ encL l := by simp [encL]
theorem formL_pos (a : Int) : ∃ c m, formL a = c :: m := by
  unfold formL; (repeat' split) <;> exact ⟨_, _, rfl⟩

/-- The order of runes is the order of their forms. -/
theorem encL_less : ∀ a b : List Int, (∀ x ∈ a, utfRight x = true) → (∀ x ∈ b, utfRight x = true) → intsLess (encL a) (encL b) = intsLess a b
  | [], [], _, _ => rfl
  | a :: l, [], _, _ => by simp [intsLess, encL]
  | [], b :: m, _, _ => by
    obtain ⟨c, n, e⟩ := formL_pos b
    rw [encL_cons, e]; rfl
  | a :: l, b :: m, ha, hb => by
    have ih := encL_less l m (fun x hx => ha x (by simp [hx])) (fun x hx => hb x (by simp [hx]))
    rw [encL_cons, encL_cons]
    rcases Int.lt_trichotomy a b with h | h | h
    · rw [(formL_less a b _ _ (ha a (by simp)) (hb b (by simp)) h).1]
      simp [intsLess, h]
    · subst h
      rw [intsLess_pre, ih]
      simp [intsLess]
    · rw [(formL_less b a _ _ (hb b (by simp)) (ha a (by simp)) h).2]
      simp only [intsLess]
      rw [decide_eq_false (by omega), decide_eq_false (by omega)]; rfl

theorem drop_get (l : List Int) (k : Nat) (h : k < l.length) : l.drop k = l.getD k 0 :: l.drop (k + 1) := by
  rw [List.drop_eq_getElem_cons h, List.getD_eq_getElem?_getD, List.getElem?_eq_getElem h]; rfl

set_option maxHeartbeats 2000000 in
set_option maxRecDepth 100000 in
theorem utfOrder_walk {E : Nat → Addr} (A : Option Addr) (c : Nat) (a : List Int) (B : Option Addr) (d : Nat) (b : List Int) (w : World) (hs : Sents E w)
    (hCa : (Kd.int .i32).C w A a.length a) (hca : a.length ≤ c) (hCb : (Kd.int .i32).C w B b.length b) (hcb : b.length ≤ d) :
    Calls Tryd.prog 7 #[.slice A a.length c, .slice B b.length d] w fun e w' => e = .returned (.bool true) ∧ Below w.heap.size w w' := by
  have HCA := Lib.hid hCa
  have HCB := Lib.hid hCb
  have l1 : a.length ≤ 9223372036854775807 := hCa.2.1
  have l2 : b.length ≤ 9223372036854775807 := hCb.2.1
  clear hCa hCb
  by_cases hbig : 20 < a.length ∨ 20 < b.length
  · by_cases h1 : 20 < a.length
    all_goals
      go_enter Tryd.func7, Tryd.ntmps7
      go_wp2_with fail
      refine (awake01 _ hs).mono ?_
      rintro e w1 ⟨rfl, hb⟩
      go_wp2_with fail
      first | (go_ret; exact ⟨rfl, hb⟩) | (exfalso; omega)
  · have ha20 : a.length ≤ 20 := by omega
    have hb20 : b.length ≤ 20 := by omega
    obtain ⟨n, hn⟩ := encAt_exists a
    obtain ⟨m, hm⟩ := encAt_exists b
    have HN := Lib.hid hn
    have HM := Lib.hid hm
    have hnle := hn.le
    have hmle := hm.le
    clear hn hm hbig
    by_cases hna : n = a.length
    · by_cases hmb : m = b.length
      · have HNA : Hid (EncAt a a.length) := by have := HN.out; rw [hna] at this; exact this
        have HMB : Hid (EncAt b b.length) := by have := HM.out; rw [hmb] at this; exact this
        have HL : Hid (Op.bytesLess (strOfNums (encL a)).toList (strOfNums (encL b)).toList = intsLess a b) := by
          have ra := encAt_all HNA.out
          have rb := encAt_all HMB.out
          show _ = _
          rw [bytesLess_ints, ints_nums _ (encL_range a ra), ints_nums _ (encL_range b rb), encL_less a b ra rb]
        clear hna hmb HN HM hnle hmle
        go_enter Tryd.func7, Tryd.ntmps7
        go_wp2_with fail
        refine (awake01 _ hs).mono ?_
        rintro e w1 ⟨rfl, hb⟩
        have hB1 := Lib.hid hb
        clear hb
        go_wp2_with fail
        refine (utf_Encode_ok A c a _ (by omega) (hs.below hB1.out) (Kd.C_below HCA.out hB1.out) (encAt_all HNA.out)).mono ?_
        rintro e w2 ⟨rfl, hb⟩
        have hB2 := Lib.hid (below_step hB1.out hb)
        clear hb hB1
        go_wp2_with fail
        refine (utf_Encode_ok B d b _ (by omega) (hs.below hB2.out) (Kd.C_below HCB.out hB2.out) (encAt_all HMB.out)).mono ?_
        rintro e w3 ⟨rfl, hb⟩
        have hB3 := Lib.hid (below_step hB2.out hb)
        have HCA3 := Lib.hid (Kd.C_below HCA.out hB3.out)
        have HCB3 := Lib.hid (Kd.C_below HCB.out hB3.out)
        clear hb hB2
        obtain ⟨sa, Hsa⟩ : ∃ s, Hid (strOfNums (encL a) = s) := ⟨_, rfl⟩
        obtain ⟨sb, Hsb⟩ : ∃ s, Hid (strOfNums (encL b) = s) := ⟨_, rfl⟩
        rw [Hsa.out, Hsb.out]
        rw [Hsa.out, Hsb.out] at HL
        go_wp2_with fail
        go_loopg [9] a.length (fun k v9 w' => ∃ i : Nat, v9 = .int .i64 i ∧ Hid (i ≤ a.length ∧ i ≤ b.length ∧ a.length ≤ i + k) ∧ Hid (intsLess (a.drop i) (b.drop i) = intsLess a b) ∧ ∃ q, w' = w3.drewN q)
        case atStart => exact ⟨0, rfl, ⟨Nat.zero_le _, Nat.zero_le _, by omega⟩, by show _ = _; simp, 0, rfl⟩
        case round =>
          obtain ⟨i, rfl, HI, HD, q, rfl⟩ := hrel
          obtain ⟨i1, i2, i3⟩ := HI.out
          by_cases ha : i < a.length
          · have da : decide (i < a.length) = true := by simpa using ha
            obtain ⟨ad, rfl, hc1⟩ := C_int_get HCA3.out i ha
            obtain ⟨x, HX⟩ : ∃ x, Hid (a.getD i 0 = x) := ⟨_, rfl⟩
            rw [HX.out] at hc1
            have dn : ((i : Int) == (a.length : Int)) = false := by rw [beq_eq_false_iff_ne]; omega
            by_cases hb : i < b.length
            · have db : decide (i < b.length) = true := by simpa using hb
              obtain ⟨bd, rfl, hc2⟩ := C_int_get HCB3.out i hb
              obtain ⟨y, HY⟩ : ∃ y, Hid (b.getD i 0 = y) := ⟨_, rfl⟩
              rw [HY.out] at hc2
              by_cases hxy : x = y
              · cases gk with
                | zero => omega
                | succ k1 =>
                  have hE : (x == y) = true := by rw [hxy]; simp
                  have HD2 : Hid (intsLess (a.drop (i + 1)) (b.drop (i + 1)) = intsLess a b) := by
                    have := HD.out
                    rw [drop_get a i ha, drop_get b i hb, HX.out, HY.out, hxy] at this
                    show _ = _
                    rw [← this]; simp [intsLess]
                  have HI2 : Hid (i + 1 ≤ a.length ∧ i + 1 ≤ b.length ∧ a.length ≤ i + 1 + k1) := ⟨by omega, by omega, by omega⟩
                  clear hxy HI
                  go_wp2_with fail
                  go_quiet (fail)
                  go_wp2_with fail
                  go_roundg k1
                  case measure => omega
                  case rel => exact ⟨i + 1, by go_num, HI2, HD2, _, rfl⟩
              · have hE : (x == y) = false := by rw [beq_eq_false_iff_ne]; exact hxy
                by_cases hxl : x < y
                · have hl : Op.bytesLess sa.toList sb.toList = true := by
                    rw [HL.out, ← HD.out, drop_get a i ha, drop_get b i hb, HX.out, HY.out]; simp [intsLess, hxl]
                  have dx : decide (x < y) = true := by simpa using hxl
                  go_wp2_with fail
                  go_quiet (fail)
                  go_wp2_with fail
                  go_quiet (fail)
                  go_wp2
                  go_ret
                  exact ⟨rfl, below_step hB3.out (PrintB (Below.refl _ _) _)⟩
                · have hl : Op.bytesLess sa.toList sb.toList = false := by
                    rw [HL.out, ← HD.out, drop_get a i ha, drop_get b i hb, HX.out, HY.out]; simp [intsLess, hxl, hxy]
                  have dx : decide (x < y) = false := by simpa using hxl
                  go_wp2_with fail
                  go_quiet (fail)
                  go_wp2_with fail
                  go_quiet (fail)
                  go_wp2
                  go_ret
                  exact ⟨rfl, below_step hB3.out (PrintB (Below.refl _ _) _)⟩
            · have db : decide (i < b.length) = false := by simpa using hb
              have hl : Op.bytesLess sa.toList sb.toList = false := by
                rw [HL.out, ← HD.out, List.drop_of_length_le (l := b) (by omega)]; simp [intsLess]
              go_wp2_with fail
              go_quiet (fail)
              go_wp2_with fail
              go_quiet (fail)
              go_wp2
              go_ret
              exact ⟨rfl, below_step hB3.out (PrintB (Below.refl _ _) _)⟩
          · have da : decide (i < a.length) = false := by simpa using ha
            have dn : ((i : Int) == (a.length : Int)) = true := by rw [beq_iff_eq]; omega
            by_cases hb : i < b.length
            · have db : decide (i < b.length) = true := by simpa using hb
              have hl : Op.bytesLess sa.toList sb.toList = true := by
                rw [HL.out, ← HD.out, List.drop_of_length_le (l := a) (by omega), drop_get b i hb]; simp [intsLess]
              go_wp2_with fail
              go_quiet (fail)
              go_wp2_with fail
              go_quiet (fail)
              go_wp2
              go_ret
              exact ⟨rfl, below_step hB3.out (PrintB (Below.refl _ _) _)⟩
            · have db : decide (i < b.length) = false := by simpa using hb
              have hl : Op.bytesLess sa.toList sb.toList = false := by
                rw [HL.out, ← HD.out, List.drop_of_length_le (l := b) (by omega)]; simp [intsLess]
              go_wp2_with fail
              go_quiet (fail)
              go_wp2_with fail
              go_quiet (fail)
              go_wp2
              go_ret
              exact ⟨rfl, below_step hB3.out (PrintB (Below.refl _ _) _)⟩
      · have HNA : Hid (EncAt a a.length) := by have := HN.out; rw [hna] at this; exact this
        have hmlt : m < b.length := by omega
        clear hna hmb HN hnle hmle
        go_enter Tryd.func7, Tryd.ntmps7
        go_wp2_with fail
        refine (awake01 _ hs).mono ?_
        rintro e w1 ⟨rfl, hb⟩
        have hB1 := Lib.hid hb
        clear hb
        go_wp2_with fail
        refine (utf_Encode_ok A c a _ (by omega) (hs.below hB1.out) (Kd.C_below HCA.out hB1.out) (encAt_all HNA.out)).mono ?_
        rintro e w2 ⟨rfl, hb⟩
        have hB2 := Lib.hid (below_step hB1.out hb)
        clear hb hB1
        go_wp2_with fail
        refine (utf_Encode_bad B d b m _ (by omega) (hs.below hB2.out) (Kd.C_below HCB.out hB2.out) HM.out hmlt).mono ?_
        rintro e w3 ⟨p, rfl, hE, hb⟩
        go_wp2
        go_ret
        exact ⟨rfl, below_step hB2.out hb⟩
    · have hnlt : n < a.length := by omega
      go_enter Tryd.func7, Tryd.ntmps7
      go_wp2_with fail
      refine (awake01 _ hs).mono ?_
      rintro e w1 ⟨rfl, hb⟩
      have hB1 := Lib.hid hb
      clear hb
      go_wp2_with fail
      refine (utf_Encode_bad A c a n _ (by omega) (hs.below hB1.out) (Kd.C_below HCA.out hB1.out) HN.out hnlt).mono ?_
      rintro e w2 ⟨p, rfl, hE, hb⟩
      have hB2 := Lib.hid (below_step hB1.out hb)
      clear hb hB1 hE hnlt HN hna
      go_wp2_with fail
      refine (utf_Encode_any B d b m _ (by omega) (hs.below hB2.out) (Kd.C_below HCB.out hB2.out) HM.out).mono ?_
      rintro e w3 ⟨h, hb⟩
      have HB3 := Lib.hid (below_step hB2.out hb)
      clear hb hB2
      rcases h with ⟨_, rfl⟩ | ⟨_, p2, rfl, _⟩
      all_goals
        go_wp2
        go_ret
        exact ⟨rfl, HB3.out⟩
end Go.Proofs.YtkaepipnbgdoeaaDoor
