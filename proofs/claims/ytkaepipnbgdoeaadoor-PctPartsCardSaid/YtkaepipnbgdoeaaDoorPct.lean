/- The small functions of pct; 'each' by its contract, at each of its callbacks. pct.Unescape by its contract. pct.Places by its contract. pct.Places by its contract (its result). -/
import Derived.Test.YtkaepipnbgdoeaaDoorBase
import Derived.Test.YtkaepipnbgdoeaaDoorUtf
import Derived.Lib.Hide
import Derived.Deep.QuietTactic
import Derived.BigQuiet
import Derived.Test.YtkaepipnbgdoeaaDoorBuild
import Derived.Test.YtkaepipnbgdoeaaDoorPAllx0
set_option linter.unusedVariables false
set_option linter.unusedSimpArgs false
namespace Go.Proofs.YtkaepipnbgdoeaaDoor
section
open Go.RowKit Go.PlainAid

theorem pct_fault_any (at_ : Int) (a : Addr) (w : World) :
    Calls Tryd.prog 34 #[.int .i64 at_, .iface 126 (.pointer (some a))] w fun e w' => e = .returned (.iface 65 (.pointer (some ⟨w.heap.size, 0, none⟩))) ∧ w' = w.alloc (.cells #[.int .i64 at_, .iface 126 (.pointer (some a))] 69) := by
  go_enter Tryd.func34, Tryd.ntmps34
  go_wp2
  go_ret
  exact ⟨rfl, rfl⟩

set_option maxHeartbeats 1000000 in
theorem pct_digit_any (b : Int) (w : World) (h0 : 0 ≤ b) (h1 : b ≤ 255) :
    Calls Tryd.prog 33 #[.int .u8 b] w fun e w' => e = .returned (.int .i64 (hexd b)) ∧ w' = w := by
  go_enter Tryd.func33, Tryd.ntmps33
  go_wp2
  all_goals
    go_ret
    refine ⟨ret_int ?_, rfl⟩
    go_light
    unfold hexd
    (repeat (first | rw [if_pos (by omega)] | rw [if_neg (by omega)])) <;> omega

theorem below_new {w0 w : World} (hb : Below w0.heap.size w0 w) (o : Obj) : Below w0.heap.size w0 (w.alloc o) := hb.alloc hb.size o

theorem or4_fin : ∀ x y : Fin 16, bits .or .i64 ((x.val : Int) * 16) (y.val : Int) = (x.val : Int) * 16 + (y.val : Int) := by decide +kernel
theorem i64_or4 (x y : Int) (hx0 : 0 ≤ x) (hx1 : x ≤ 15) (hy0 : 0 ≤ y) (hy1 : y ≤ 15) : bits .or .i64 (x * 16) y % 256 = 16 * x + y := by
  have h := or4_fin ⟨x.toNat, by omega⟩ ⟨y.toNat, by omega⟩
  simp only [Int.toNat_of_nonneg hx0, Int.toNat_of_nonneg hy0] at h
  rw [h]; omega
theorem PrintB {w0 w : World} (hb : Below w0.heap.size w0 w) (n : Nat) : Below w0.heap.size w0 (w.drewN n) := ⟨hb.os, hb.tape, hb.output, hb.size, hb.block⟩

def EachIs (E : Nat → Addr) (s : ByteArray) (St : List Int → List Int → World → Prop) (w0 : World) (e : Ending) (w' : World) : Prop :=
  ∃ v, e = .returned v ∧ ErrV E w' v (ue s).2.2.1 (ue s).2.2.2 ∧ ((ue s).2.2.2 = 0 → St (ue s).1 (ue s).2.1 w') ∧ Below w0.heap.size w0 w'

set_option maxHeartbeats 600000 in
set_option maxRecDepth 100000 in
theorem each_Unescape {E : Nat → Addr} (s : ByteArray) (St : List Int → List Int → World → Prop) (cap : Value) (w0 w : World) (hl : s.size ≤ 1000000) (hs : Sents E w0) (hb0 : Below w0.heap.size w0 w) (h0 : St [] [] w)
    (hdr : ∀ bs ps w n, St bs ps w → St bs ps (w.drewN n))
    (hcb : ∀ bs ps b at_ w, 0 ≤ b → b ≤ 255 → (bs.length : Int) ≤ 1000000 → St bs ps w → Below w0.heap.size w0 w → Calls Tryd.prog 49 #[.int .u8 b, .int .i64 at_, cap] w fun e w' => e = .returned (.tuple #[]) ∧ St (bs ++ [b]) (ps ++ [at_]) w' ∧ Below w0.heap.size w0 w') :
    Calls Tryd.prog 48 #[.string s, .func (.func 49) #[] #[cap]] w (EachIs E s St w0) := by
  have hbt := get_bt s
  have HCB := Lib.hid hcb
  clear hcb
  go_enter Tryd.func48, Tryd.ntmps48
  go_wp2_with fail
  go_loopg [5] s.size (fun k v5 w' => ∃ (bs ps : List Int) (at_ : Int), v5 = .int .i64 at_ ∧ Hid (0 ≤ at_ ∧ at_ ≤ s.size ∧ s.size - at_ ≤ k ∧ (bs.length : Int) ≤ at_) ∧ Hid (uesc s k at_ bs ps = ue s) ∧ Hid (St bs ps w') ∧ Hid (Below w0.heap.size w0 w'))
  case atStart => exact ⟨[], [], 0, rfl, ⟨by omega, by omega, by omega, by simp⟩, rfl, h0, hb0⟩
  case round =>
    obtain ⟨bs, ps, at_, rfl, HI, HD, HS, HB⟩ := hrel
    obtain ⟨i0, i1, i2, i3⟩ := HI.out
    have n0 := bt_nonneg s at_.toNat
    have l0 := bt_le s at_.toNat
    by_cases hlt : at_ < s.size
    · cases gk with
      | zero => omega
      | succ k1 =>
        by_cases c37 : bt s at_.toNat = 37
        · have c37b : (bt s at_.toNat != 37) = false := by rw [bne_eq_false_iff_eq]; exact c37
          have n1 := bt_nonneg s (at_ + 1).toNat
          have l1 := bt_le s (at_ + 1).toNat
          have n2 := bt_nonneg s (at_ + 2).toNat
          have l2 := bt_le s (at_ + 2).toNat
          by_cases hend : (s.size : Int) - at_ < 3
          · have HD2 : Hid (ue s = ([], [], at_, 2)) := by
              have := HD.out
              unfold uesc at this
              rw [if_neg (by omega), if_neg (by omega), if_pos hend] at this
              exact this.symm
            have c2 : wr.cell? ⟨3, 0, none⟩ = some (.iface 126 (.pointer (some (E 2)))) := cell_below HB.out hs.c2
            clear HD HI
            go_wp2_with (go_at_call 34; refine (pct_fault_any _ _ _).mono ?_; rintro e w' ⟨rfl, rfl⟩)
            go_ret
            exact ⟨_, rfl, by rw [HD2.out]; exact ErrV.new rfl (by omega) (by omega), by rw [HD2.out]; intro h; simp at h, below_new HB.out _⟩
          · have bh := hexd_le (bt s (at_ + 1).toNat)
            have bl := hexd_le (bt s (at_ + 2).toNat)
            have q1 : at_ + 1 < (s.size : Int) := by omega
            have q2 : at_ + 2 < (s.size : Int) := by omega
            have q1' : 0 ≤ at_ + 1 := by omega
            have q2' : 0 ≤ at_ + 2 := by omega
            by_cases hbad : hexd (bt s (at_ + 1).toNat) < 0 ∨ hexd (bt s (at_ + 2).toNat) < 0
            · have HD2 : Hid (ue s = ([], [], at_, 1)) := by
                have := HD.out
                unfold uesc at this
                rw [if_neg (by omega), if_neg (by omega), if_neg hend, if_pos hbad] at this
                exact this.symm
              have c1 : ∀ n, (wr.drewN n).cell? ⟨0, 0, none⟩ = some (.iface 126 (.pointer (some (E 1)))) := fun n => cell_below HB.out hs.c1
              clear HD HI
              go_wp2_with fail
              go_quiet ((go_at_call 33; exact Calls.quiet_of_same (pct_digit_any _ _ (by omega) (by omega))))
              go_wp2_with (go_at_call 34; refine (pct_fault_any _ _ _).mono ?_; rintro e w' ⟨rfl, rfl⟩)
              all_goals
                go_ret
                exact ⟨_, rfl, by rw [HD2.out]; exact ErrV.new rfl (by omega) (by omega), by rw [HD2.out]; intro h; simp at h, below_new (PrintB HB.out _) _⟩
            · have HD2 : Hid (uesc s k1 (at_ + 3) (bs ++ [16 * hexd (bt s (at_ + 1).toNat) + hexd (bt s (at_ + 2).toNat)]) (ps ++ [at_]) = ue s) := by
                have := HD.out
                unfold uesc at this
                rw [if_neg (by omega), if_neg (by omega), if_neg hend, if_neg hbad] at this
                exact this
              clear HD HI
              go_wp2_with fail
              go_quiet ((go_at_call 33; exact Calls.quiet_of_same (pct_digit_any _ _ (by omega) (by omega))))
              go_wp2_with fail
              rw [i64_or4 _ _ (by omega) (by omega) (by omega) (by omega)]
              refine (HCB.out bs ps _ at_ _ (by omega) (by omega) (by omega) (hdr _ _ _ _ HS.out) (PrintB HB.out _)).mono ?_
              rintro e w6 ⟨rfl, hst, hb⟩
              have HS6 := Lib.hid hst
              have HB6 := Lib.hid hb
              clear HS HB hst hb
              go_wp2_with fail
              go_roundg k1
              case measure => omega
              case rel => exact ⟨bs ++ [16 * hexd (bt s (at_ + 1).toNat) + hexd (bt s (at_ + 2).toNat)], ps ++ [at_], at_ + 3, by go_num, ⟨by omega, by omega, by omega, by simp; omega⟩, HD2, HS6, HB6⟩
        · have HD2 : Hid (uesc s k1 (at_ + 1) (bs ++ [bt s at_.toNat]) (ps ++ [at_]) = ue s) := by
            have := HD.out
            unfold uesc at this
            rw [if_neg (by omega), if_pos c37] at this
            exact this
          have c37b : (bt s at_.toNat != 37) = true := by rw [bne_iff_ne]; exact c37
          clear HD HI
          go_wp2_with fail
          refine (HCB.out bs ps _ at_ _ (by omega) (by omega) (by omega) HS.out HB.out).mono ?_
          rintro e w6 ⟨rfl, hst, hb⟩
          have HS6 := Lib.hid hst
          have HB6 := Lib.hid hb
          clear HS HB hst hb
          go_wp2_with fail
          go_roundg k1
          case measure => omega
          case rel => exact ⟨bs ++ [bt s at_.toNat], ps ++ [at_], at_ + 1, rfl, ⟨by omega, by omega, by omega, by simp; omega⟩, HD2, HS6, HB6⟩
    · have HD2 : Hid (ue s = (bs, ps, 0, 0)) := by
        have := HD.out
        cases gk with
        | zero => exact this.symm
        | succ k1 =>
          unfold uesc at this
          rw [if_pos (by omega)] at this
          exact this.symm
      clear HD HI
      go_wp2
      go_ret
      exact ⟨_, rfl, by rw [HD2.out]; exact .inl ⟨rfl, rfl⟩, by rw [HD2.out]; exact fun _ => HS.out, HB.out⟩
end

section
open Go.RowKit Go.PlainAid

/-- A builder of the call's own (the block b) holds these bytes. -/
def BuildSt (B b : Nat) (bs ps : List Int) (w : World) : Prop := (∀ x ∈ bs, 0 ≤ x ∧ x ≤ 255) ∧ Lib.IsBuilder 79 5 B b (bs.map (Value.int .u8)) w

theorem byteCells_nums (bs : List Int) (h : ∀ x ∈ bs, 0 ≤ x ∧ x ≤ 255) : Lib.byteCells (bs.map fun n => UInt8.ofNat n.toNat) = bs.map (Value.int .u8) := by
  unfold Lib.byteCells
  rw [List.map_map]
  apply List.map_congr_left
  intro x hx
  have := h x hx
  simp
  omega

theorem build_text {b : Nat} {bs : List Int} {w0 w : World} (h : ∀ x ∈ bs, 0 ≤ x ∧ x ≤ 255) (hb : Lib.IsBuilder 79 5 w0.heap.size b (bs.map (Value.int .u8)) w) (hw : Below w0.heap.size w0 w) :
    Calls Tryd.prog 47 #[.pointer (some ⟨b, 0, none⟩)] w fun e w' => e = .returned (.string (strOfNums bs)) ∧ Below w0.heap.size w0 w' := by
  refine (Builder_String_any w0.heap.size b (bs.map fun n => UInt8.ofNat n.toNat) w (by rw [byteCells_nums bs h]; exact hb) hw.size).mono ?_
  rintro e w' ⟨rfl, h2⟩
  exact ⟨rfl, hw.trans h2⟩

theorem Unescape1_any (b0 : Nat) (w0 : World) : ∀ (bs ps : List Int) (b at_ : Int) (w : World), 0 ≤ b → b ≤ 255 → (bs.length : Int) ≤ 1000000 → BuildSt w0.heap.size b0 bs ps w → Below w0.heap.size w0 w →
    Calls Tryd.prog 49 #[.int .u8 b, .int .i64 at_, .pointer (some ⟨b0, 0, none⟩)] w fun e w' => e = .returned (.tuple #[]) ∧ BuildSt w0.heap.size b0 (bs ++ [b]) (ps ++ [at_]) w' ∧ Below w0.heap.size w0 w' := by
  intro bs ps b at_ w h0 h1 hl ⟨hr, hst⟩ hb
  have hwb := Builder_WriteByte w0.heap.size b0 (bs.map (Value.int .u8)) b w hst (by simp; omega) hb.size
  have HB := Lib.hid hb
  have HR := Lib.hid hr
  clear hr hst hb
  go_enter Tryd.func49, Tryd.ntmps49
  go_wp2_with fail
  refine hwb.mono ?_
  rintro e w' ⟨rfl, hat, hb2⟩
  go_wp2_with fail
  go_end0
  refine ⟨rfl, ⟨?_, ?_⟩, HB.out.trans hb2⟩
  · intro x hx
    rcases List.mem_append.1 hx with hx | hx
    · exact HR.out x hx
    · rw [List.mem_singleton.1 hx]; exact ⟨h0, h1⟩
  · rw [List.map_append]; exact .inr hat

set_option maxHeartbeats 1000000 in
theorem pct_Unescape_any {E : Nat → Addr} (s : ByteArray) (w : World) (hl : s.size ≤ 1000000) (hs : Sents E w) :
    Calls Tryd.prog 21 #[.string s] w fun e w' => ∃ v, e = .returned (.tuple #[.string (strOfNums (ue s).1), v]) ∧ ErrV E w' v (ue s).2.2.1 (ue s).2.2.2 ∧ Below w.heap.size w w' := by
  have hst0 : BuildSt w.heap.size w.heap.size [] [] (w.alloc (.cells #[.pointer none, .slice none 0 0] 79)) := ⟨by simp, Lib.fresh_isBuilder _ _ w⟩
  have heach := each_Unescape (E := E) s (BuildSt w.heap.size w.heap.size) (.pointer (some ⟨w.heap.size, 0, none⟩)) w (w.alloc (.cells #[.pointer none, .slice none 0 0] 79)) hl hs ((Below.refl _ w).alloc (Nat.le_refl _) _) hst0 (fun _ _ _ _ h => h) (Unescape1_any w.heap.size w)
  have HE := Lib.hid heach
  clear heach hst0
  go_enter Tryd.func21, Tryd.ntmps21
  go_wp2_with fail
  refine HE.out.mono ?_
  rintro e w' ⟨v, rfl, hE, hS, hb⟩
  have HS := Lib.hid hS
  have HB := Lib.hid hb
  have HEV := Lib.hid hE
  clear hS hb
  rcases hE with ⟨h0, rfl⟩ | ⟨h1, h2, b, rfl, _⟩
  · obtain ⟨hr, hbd⟩ := HS.out h0
    have HT := Lib.hid (build_text (w0 := w) hr hbd HB.out)
    have HEV2 : ∀ w2, Hid (ErrV E w2 .nilIface (ue s).2.2.1 (ue s).2.2.2) := fun _ => .inl ⟨h0, rfl⟩
    clear hr hbd h0 HEV
    go_wp2_with fail
    refine HT.out.mono ?_
    rintro e w2 ⟨rfl, hb2⟩
    go_wp2
    go_ret2
    exact ⟨_, rfl, (HEV2 _).out, hb2⟩
  · have hnil : Hid (strOfNums (ue s).1 = ⟨#[]⟩) := by
      have := (ue_bad s (by omega)).1
      rw [this]; rfl
    clear h1 h2
    go_wp2
    go_ret2
    exact ⟨_, by rw [hnil.out]; rfl, HEV.out, HB.out⟩
end

section
open Go.RowKit Go.PlainAid

set_option maxHeartbeats 600000 in
set_option maxRecDepth 100000 in
theorem each_Places {E : Nat → Addr} (s : ByteArray) (St : List Int → List Int → World → Prop) (cap : Value) (w0 w : World) (hl : s.size ≤ 1000000) (hs : Sents E w0) (hb0 : Below w0.heap.size w0 w) (h0 : St [] [] w)
    (hdr : ∀ bs ps w n, St bs ps w → St bs ps (w.drewN n))
    (hcb : ∀ bs ps b at_ w, 0 ≤ b → b ≤ 255 → (bs.length : Int) ≤ 1000000 → St bs ps w → Below w0.heap.size w0 w → Calls Tryd.prog 50 #[.int .u8 b, .int .i64 at_, cap] w fun e w' => e = .returned (.tuple #[]) ∧ St (bs ++ [b]) (ps ++ [at_]) w' ∧ Below w0.heap.size w0 w') :
    Calls Tryd.prog 48 #[.string s, .func (.func 50) #[] #[cap]] w (EachIs E s St w0) := by
  have hbt := get_bt s
  have HCB := Lib.hid hcb
  clear hcb
  go_enter Tryd.func48, Tryd.ntmps48
  go_wp2_with fail
  go_loopg [5] s.size (fun k v5 w' => ∃ (bs ps : List Int) (at_ : Int), v5 = .int .i64 at_ ∧ Hid (0 ≤ at_ ∧ at_ ≤ s.size ∧ s.size - at_ ≤ k ∧ (bs.length : Int) ≤ at_) ∧ Hid (uesc s k at_ bs ps = ue s) ∧ Hid (St bs ps w') ∧ Hid (Below w0.heap.size w0 w'))
  case atStart => exact ⟨[], [], 0, rfl, ⟨by omega, by omega, by omega, by simp⟩, rfl, h0, hb0⟩
  case round =>
    obtain ⟨bs, ps, at_, rfl, HI, HD, HS, HB⟩ := hrel
    obtain ⟨i0, i1, i2, i3⟩ := HI.out
    have n0 := bt_nonneg s at_.toNat
    have l0 := bt_le s at_.toNat
    by_cases hlt : at_ < s.size
    · cases gk with
      | zero => omega
      | succ k1 =>
        by_cases c37 : bt s at_.toNat = 37
        · have c37b : (bt s at_.toNat != 37) = false := by rw [bne_eq_false_iff_eq]; exact c37
          have n1 := bt_nonneg s (at_ + 1).toNat
          have l1 := bt_le s (at_ + 1).toNat
          have n2 := bt_nonneg s (at_ + 2).toNat
          have l2 := bt_le s (at_ + 2).toNat
          by_cases hend : (s.size : Int) - at_ < 3
          · have HD2 : Hid (ue s = ([], [], at_, 2)) := by
              have := HD.out
              unfold uesc at this
              rw [if_neg (by omega), if_neg (by omega), if_pos hend] at this
              exact this.symm
            have c2 : wr.cell? ⟨3, 0, none⟩ = some (.iface 126 (.pointer (some (E 2)))) := cell_below HB.out hs.c2
            clear HD HI
            go_wp2_with (go_at_call 34; refine (pct_fault_any _ _ _).mono ?_; rintro e w' ⟨rfl, rfl⟩)
            go_ret
            exact ⟨_, rfl, by rw [HD2.out]; exact ErrV.new rfl (by omega) (by omega), by rw [HD2.out]; intro h; simp at h, below_new HB.out _⟩
          · have bh := hexd_le (bt s (at_ + 1).toNat)
            have bl := hexd_le (bt s (at_ + 2).toNat)
            have q1 : at_ + 1 < (s.size : Int) := by omega
            have q2 : at_ + 2 < (s.size : Int) := by omega
            have q1' : 0 ≤ at_ + 1 := by omega
            have q2' : 0 ≤ at_ + 2 := by omega
            by_cases hbad : hexd (bt s (at_ + 1).toNat) < 0 ∨ hexd (bt s (at_ + 2).toNat) < 0
            · have HD2 : Hid (ue s = ([], [], at_, 1)) := by
                have := HD.out
                unfold uesc at this
                rw [if_neg (by omega), if_neg (by omega), if_neg hend, if_pos hbad] at this
                exact this.symm
              have c1 : ∀ n, (wr.drewN n).cell? ⟨0, 0, none⟩ = some (.iface 126 (.pointer (some (E 1)))) := fun n => cell_below HB.out hs.c1
              clear HD HI
              go_wp2_with fail
              go_quiet ((go_at_call 33; exact Calls.quiet_of_same (pct_digit_any _ _ (by omega) (by omega))))
              go_wp2_with (go_at_call 34; refine (pct_fault_any _ _ _).mono ?_; rintro e w' ⟨rfl, rfl⟩)
              all_goals
                go_ret
                exact ⟨_, rfl, by rw [HD2.out]; exact ErrV.new rfl (by omega) (by omega), by rw [HD2.out]; intro h; simp at h, below_new (PrintB HB.out _) _⟩
            · have HD2 : Hid (uesc s k1 (at_ + 3) (bs ++ [16 * hexd (bt s (at_ + 1).toNat) + hexd (bt s (at_ + 2).toNat)]) (ps ++ [at_]) = ue s) := by
                have := HD.out
                unfold uesc at this
                rw [if_neg (by omega), if_neg (by omega), if_neg hend, if_neg hbad] at this
                exact this
              clear HD HI
              go_wp2_with fail
              go_quiet ((go_at_call 33; exact Calls.quiet_of_same (pct_digit_any _ _ (by omega) (by omega))))
              go_wp2_with fail
              rw [i64_or4 _ _ (by omega) (by omega) (by omega) (by omega)]
              refine (HCB.out bs ps _ at_ _ (by omega) (by omega) (by omega) (hdr _ _ _ _ HS.out) (PrintB HB.out _)).mono ?_
              rintro e w6 ⟨rfl, hst, hb⟩
              have HS6 := Lib.hid hst
              have HB6 := Lib.hid hb
              clear HS HB hst hb
              go_wp2_with fail
              go_roundg k1
              case measure => omega
              case rel => exact ⟨bs ++ [16 * hexd (bt s (at_ + 1).toNat) + hexd (bt s (at_ + 2).toNat)], ps ++ [at_], at_ + 3, by go_num, ⟨by omega, by omega, by omega, by simp; omega⟩, HD2, HS6, HB6⟩
        · have HD2 : Hid (uesc s k1 (at_ + 1) (bs ++ [bt s at_.toNat]) (ps ++ [at_]) = ue s) := by
            have := HD.out
            unfold uesc at this
            rw [if_neg (by omega), if_pos c37] at this
            exact this
          have c37b : (bt s at_.toNat != 37) = true := by rw [bne_iff_ne]; exact c37
          clear HD HI
          go_wp2_with fail
          refine (HCB.out bs ps _ at_ _ (by omega) (by omega) (by omega) HS.out HB.out).mono ?_
          rintro e w6 ⟨rfl, hst, hb⟩
          have HS6 := Lib.hid hst
          have HB6 := Lib.hid hb
          clear HS HB hst hb
          go_wp2_with fail
          go_roundg k1
          case measure => omega
          case rel => exact ⟨bs ++ [bt s at_.toNat], ps ++ [at_], at_ + 1, rfl, ⟨by omega, by omega, by omega, by simp; omega⟩, HD2, HS6, HB6⟩
    · have HD2 : Hid (ue s = (bs, ps, 0, 0)) := by
        have := HD.out
        cases gk with
        | zero => exact this.symm
        | succ k1 =>
          unfold uesc at this
          rw [if_pos (by omega)] at this
          exact this.symm
      clear HD HI
      go_wp2
      go_ret
      exact ⟨_, rfl, by rw [HD2.out]; exact .inl ⟨rfl, rfl⟩, by rw [HD2.out]; exact fun _ => HS.out, HB.out⟩

open Go.Proofs.YtkaepipnbgdoeaaDoorW.PrintWords
/-- A slice of whole numbers in a variable of the call's own (the block b). -/
def SlSt (B b : Nat) (bs ps : List Int) (w : World) : Prop := ps.length = bs.length ∧ B ≤ b ∧ ∃ v, w.heap[b]? = some (.cells #[v] 35 (0, 0)) ∧ (Kd.int .i64).R 3 w B (fun k => k ≠ b) v ps

set_option maxHeartbeats 600000 in
set_option maxRecDepth 100000 in
theorem Places1_any (b0 : Nat) (w0 : World) : ∀ (bs ps : List Int) (b at_ : Int) (w : World), 0 ≤ b → b ≤ 255 → (bs.length : Int) ≤ 1000000 → SlSt w0.heap.size b0 bs ps w → Below w0.heap.size w0 w →
    Calls Tryd.prog 50 #[.int .u8 b, .int .i64 at_, .pointer (some ⟨b0, 0, none⟩)] w fun e w' => e = .returned (.tuple #[]) ∧ SlSt w0.heap.size b0 (bs ++ [b]) (ps ++ [at_]) w' ∧ Below w0.heap.size w0 w' := by
  intro bs ps b at_ w h0 h1 hl ⟨hlen, hB, v, hbk, hR⟩ hb
  have hlt : b0 < w.heap.size := (Array.getElem?_eq_some_iff.1 hbk).1
  have c0 : w.cell? ⟨b0, 0, none⟩ = some v := by rw [Lib.cell_of_heap hbk]; rfl
  have HL := Lib.hid hlen
  clear hlen
  have hl2 : (ps.length : Int) ≤ 1000000 := by rw [HL.out]; exact hl
  have info := PAll.info3
  have HB := Lib.hid hb
  have HR := Lib.hid hR
  have HK := Lib.hid hbk
  clear hR hb hbk
  go_enter Tryd.func50, Tryd.ntmps50
  go_wp2_with (at_builtin; go_must (refine Kd.R_append (Kd.int .i64) (w0 := w0) w0.heap.size rfl (.tmp 5) (.tmp 7) 35 3 (.int .i64 0) 8 rfl Tryd.underlying35 info rfl (by decide) (by omega) _ ps at_ [.int .i64 at_] (fun k => k ≠ b0) (fun _ => False) rfl rfl ?aP (fun _ hk => hk.elim) ?aF ?aO ?aB ?aS ?aL ?_); (case aP => exact rfl); (case aB => exact HB.out); (case aF => exact (fun k hk => by omega)); (case aO => exact HR.out); (case aS => exact HB.out.size); (case aL => omega); intro v1 w7 ho hb7 hg7 hat; obtain ⟨A1, c1, rfl⟩ := Kd.R_slice ho; have hbk7 : w7.heap[b0]? = some (.cells #[v] 35 (0, 0)) := (hg7.block b0 hlt (fun e => HR.out.1 b0 e.symm rfl)).trans HK.out; have c7 : w7.cell? ⟨b0, 0, none⟩ = some v := (by rw [Lib.cell_of_heap hbk7]; rfl); have f7 : w7.frozen? ⟨b0, 0, none⟩ = false := Lib.frozen_of_heap hbk7 0; have HB7 := Lib.hid hb7; have HR7 := Lib.hid ho; have HK7 := Lib.hid hbk7; clear hb7 ho hbk7 hg7 hat)
  go_wp2
  go_end0
  refine ⟨rfl, ⟨by have := HL.out; simp; omega, hB, .slice A1 (ps ++ [at_]).length c1, ?_, Kd.R_far (p := ⟨b0, 0, none⟩) HR7.out (fun k hk => hk) _⟩, HB7.out.setCell hB _⟩
  simp [World.setCell, Array.getElem?_modify, HK7.out]
end

section
open Go.RowKit Go.PlainAid Go.Proofs.YtkaepipnbgdoeaaDoorW.PrintWords

set_option maxHeartbeats 1000000 in
theorem pct_Places_any {E : Nat → Addr} (s : ByteArray) (w : World) (hl : s.size ≤ 1000000) (hs : Sents E w) :
    Calls Tryd.prog 22 #[.string s] w fun e w' => ∃ v, e = .returned v ∧ (Kd.int .i64).R 3 w' w.heap.size (fun _ => True) v (ue s).2.1 ∧ Below w.heap.size w w' := by
  have hst0 : SlSt w.heap.size w.heap.size [] [] (w.alloc (.cells #[.slice none 0 0] 35)) := ⟨rfl, Nat.le_refl _, _, heap_alloc_new w _, Kd.R_nil _ _ _ _ _⟩
  have heach := each_Places (E := E) s (SlSt w.heap.size w.heap.size) (.pointer (some ⟨w.heap.size, 0, none⟩)) w (w.alloc (.cells #[.slice none 0 0] 35)) hl hs ((Below.refl _ w).alloc (Nat.le_refl _) _) hst0 (fun _ _ _ _ h => h) (Places1_any w.heap.size w)
  have HE := Lib.hid heach
  clear heach hst0
  go_enter Tryd.func22, Tryd.ntmps22
  go_wp2_with fail
  refine HE.out.mono ?_
  rintro e w' ⟨v, rfl, hE, hS, hb⟩
  have HS := Lib.hid hS
  have HB := Lib.hid hb
  clear hS hb
  rcases hE with ⟨h0, rfl⟩ | ⟨h1, h2, b, rfl, _⟩
  · obtain ⟨hlen, hB, v, hbk, hR⟩ := HS.out h0
    clear hlen
    have c0 : w'.cell? ⟨w.heap.size, 0, none⟩ = some v := by rw [Lib.cell_of_heap hbk]; rfl
    have HR := Lib.hid hR
    obtain ⟨A1, c1, rfl⟩ := Kd.R_slice hR
    clear hbk h0 hR hB
    go_wp2
    go_ret
    exact ⟨_, rfl, Kd.R_mono HR.out (fun _ _ => trivial), HB.out⟩
  · have hnil : Hid ((ue s).2.1 = []) := (ue_bad s (by omega)).2
    clear h1 h2
    go_wp2
    go_ret
    exact ⟨_, rfl, by rw [hnil.out]; exact Kd.R_nil _ _ _ _ _, HB.out⟩
end
end Go.Proofs.YtkaepipnbgdoeaaDoor
