/- pct.Places by its contract. -/
import Derived.Test.YtfcfehiijainpaaDoorPctA
import Derived.Test.YtfcfehiijainpaaDoorPAllx0
set_option linter.unusedVariables false
set_option linter.unusedSimpArgs false
namespace Go.Proofs.YtfcfehiijainpaaDoor
open Go.RowKit Go.PlainAid

set_option maxHeartbeats 600000 in
set_option maxRecDepth 100000 in
theorem each_Places {E : Nat → Addr} (s : ByteArray) (St : List Int → List Int → World → Prop) (cap : Value) (w0 w : World) (hl : s.size ≤ 1000000) (hs : Sents E w0) (hb0 : Below w0.heap.size w0 w) (h0 : St [] [] w)
    (hdr : ∀ bs ps w n, St bs ps w → St bs ps (w.drewN n))
    (hcb : ∀ bs ps b at_ w, 0 ≤ b → b ≤ 255 → (bs.length : Int) ≤ 1000000 → St bs ps w → Below w0.heap.size w0 w → Calls Tryd.prog 55 #[.int .u8 b, .int .i64 at_, cap] w fun e w' => e = .returned (.tuple #[]) ∧ St (bs ++ [b]) (ps ++ [at_]) w' ∧ Below w0.heap.size w0 w') :
    Calls Tryd.prog 50 #[.string s, .func (.func 55) #[] #[cap]] w (EachIs E s St w0) := by
  have hbt := get_bt s
  have HCB := Lib.hid hcb
  clear hcb
  go_enter Tryd.func50, Tryd.ntmps50
  go_wp2_with fail
  go_loopg [5] s.size (fun k v5 w' => ∃ (bs ps : List Int) (at_ : Int), v5 = .int .i64 at_ ∧ Hid (0 ≤ at_ ∧ at_ ≤ s.size ∧ s.size - at_ ≤ k ∧ (bs.length : Int) ≤ at_) ∧ Hid (uesc s k at_ bs ps = ue s) ∧ Hid (St bs ps w') ∧ Hid (Below w0.heap.size w0 w'))
  case atStart => exact ⟨[], [], 0, rfl, ⟨by omega, by omega, by omega, by simp⟩, rfl, h0, hb0⟩
  case round =>
    obtain ⟨bs, ps, at_, rfl, HI, HD, HS, HB⟩ := hrel
    obtain ⟨i0, i1, i2, i3⟩ := HI.out
    have n0 := bt_nonneg s at_.toNat
    have l0 := bt_le s at_.toNat
    by_cases hlt : at_ < s.size
    · cases gk with
      | zero => omega
      | succ k1 =>
        by_cases c37 : bt s at_.toNat = 37
        · have c37b : (bt s at_.toNat != 37) = false := by rw [bne_eq_false_iff_eq]; exact c37
          have n1 := bt_nonneg s (at_ + 1).toNat
          have l1 := bt_le s (at_ + 1).toNat
          have n2 := bt_nonneg s (at_ + 2).toNat
          have l2 := bt_le s (at_ + 2).toNat
          by_cases hend : (s.size : Int) - at_ < 3
          · have HD2 : Hid (ue s = ([], [], at_, 2)) := by
              have := HD.out
              unfold uesc at this
              rw [if_neg (by omega), if_neg (by omega), if_pos hend] at this
              exact this.symm
            have c2 : wr.cell? ⟨2, 0, none⟩ = some (.iface 127 (.pointer (some (E 2)))) := cell_below HB.out hs.c2
            clear HD HI
            go_wp2_with (go_at_call 57; refine (pct_fault_any _ _ _).mono ?_; rintro e w' ⟨rfl, rfl⟩)
            go_ret
            exact ⟨_, rfl, by rw [HD2.out]; exact ErrV.new rfl (by omega) (by omega), by rw [HD2.out]; intro h; simp at h, below_new HB.out _⟩
          · have bh := hexd_le (bt s (at_ + 1).toNat)
            have bl := hexd_le (bt s (at_ + 2).toNat)
            have q1 : at_ + 1 < (s.size : Int) := by omega
            have q2 : at_ + 2 < (s.size : Int) := by omega
            have q1' : 0 ≤ at_ + 1 := by omega
            have q2' : 0 ≤ at_ + 2 := by omega
            by_cases hbad : hexd (bt s (at_ + 1).toNat) < 0 ∨ hexd (bt s (at_ + 2).toNat) < 0
            · have HD2 : Hid (ue s = ([], [], at_, 1)) := by
                have := HD.out
                unfold uesc at this
                rw [if_neg (by omega), if_neg (by omega), if_neg hend, if_pos hbad] at this
                exact this.symm
              have c1 : ∀ n, (wr.drewN n).cell? ⟨1, 0, none⟩ = some (.iface 127 (.pointer (some (E 1)))) := fun n => cell_below HB.out hs.c1
              clear HD HI
              go_wp2_with fail
              go_quiet ((go_at_call 56; exact Calls.quiet_of_same (pct_digit_any _ _ (by omega) (by omega))))
              go_wp2_with (go_at_call 57; refine (pct_fault_any _ _ _).mono ?_; rintro e w' ⟨rfl, rfl⟩)
              all_goals
                go_ret
                exact ⟨_, rfl, by rw [HD2.out]; exact ErrV.new rfl (by omega) (by omega), by rw [HD2.out]; intro h; simp at h, below_new (PrintB HB.out _) _⟩
            · have HD2 : Hid (uesc s k1 (at_ + 3) (bs ++ [16 * hexd (bt s (at_ + 1).toNat) + hexd (bt s (at_ + 2).toNat)]) (ps ++ [at_]) = ue s) := by
                have := HD.out
                unfold uesc at this
                rw [if_neg (by omega), if_neg (by omega), if_neg hend, if_neg hbad] at this
                exact this
              clear HD HI
              go_wp2_with fail
              go_quiet ((go_at_call 56; exact Calls.quiet_of_same (pct_digit_any _ _ (by omega) (by omega))))
              go_wp2_with fail
              rw [i64_or4 _ _ (by omega) (by omega) (by omega) (by omega)]
              refine (HCB.out bs ps _ at_ _ (by omega) (by omega) (by omega) (hdr _ _ _ _ HS.out) (PrintB HB.out _)).mono ?_
              rintro e w6 ⟨rfl, hst, hb⟩
              have HS6 := Lib.hid hst
              have HB6 := Lib.hid hb
              clear HS HB hst hb
              go_wp2_with fail
              go_roundg k1
              case measure => omega
              case rel => exact ⟨bs ++ [16 * hexd (bt s (at_ + 1).toNat) + hexd (bt s (at_ + 2).toNat)], ps ++ [at_], at_ + 3, by go_num, ⟨by omega, by omega, by omega, by simp; omega⟩, HD2, HS6, HB6⟩
        · have HD2 : Hid (uesc s k1 (at_ + 1) (bs ++ [bt s at_.toNat]) (ps ++ [at_]) = ue s) := by
            have := HD.out
            unfold uesc at this
            rw [if_neg (by omega), if_pos c37] at this
            exact this
          have c37b : (bt s at_.toNat != 37) = true := by rw [bne_iff_ne]; exact c37
          clear HD HI
          go_wp2_with fail
          refine (HCB.out bs ps _ at_ _ (by omega) (by omega) (by omega) HS.out HB.out).mono ?_
          rintro e w6 ⟨rfl, hst, hb⟩
          have HS6 := Lib.hid hst
          have HB6 := Lib.hid hb
          clear HS HB hst hb
          go_wp2_with fail
          go_roundg k1
          case measure => omega
          case rel => exact ⟨bs ++ [bt s at_.toNat], ps ++ [at_], at_ + 1, rfl, ⟨by omega, by omega, by omega, by simp; omega⟩, HD2, HS6, HB6⟩
    · have HD2 : Hid (ue s = (bs, ps, 0, 0)) := by
        have := HD.out
        cases gk with
        | zero => exact this.symm
        | succ k1 =>
          unfold uesc at this
          rw [if_pos (by omega)] at this
          exact this.symm
      clear HD HI
      go_wp2
      go_ret
      exact ⟨_, rfl, by rw [HD2.out]; exact .inl ⟨rfl, rfl⟩, by rw [HD2.out]; exact fun _ => HS.out, HB.out⟩

open Go.Proofs.YtfcfehiijainpaaDoorW.PrintWords
/-- A slice of whole numbers in a variable of the call's own (the block b). -/
def SlSt (B b : Nat) (bs ps : List Int) (w : World) : Prop := ps.length = bs.length ∧ B ≤ b ∧ ∃ v, w.heap[b]? = some (.cells #[v] 33 (0, 0)) ∧ (Kd.int .i64).R 3 w B (fun k => k ≠ b) v ps

set_option maxHeartbeats 600000 in
set_option maxRecDepth 100000 in
theorem Places1_any (b0 : Nat) (w0 : World) : ∀ (bs ps : List Int) (b at_ : Int) (w : World), 0 ≤ b → b ≤ 255 → (bs.length : Int) ≤ 1000000 → SlSt w0.heap.size b0 bs ps w → Below w0.heap.size w0 w →
    Calls Tryd.prog 55 #[.int .u8 b, .int .i64 at_, .pointer (some ⟨b0, 0, none⟩)] w fun e w' => e = .returned (.tuple #[]) ∧ SlSt w0.heap.size b0 (bs ++ [b]) (ps ++ [at_]) w' ∧ Below w0.heap.size w0 w' := by
  intro bs ps b at_ w h0 h1 hl ⟨hlen, hB, v, hbk, hR⟩ hb
  have hlt : b0 < w.heap.size := (Array.getElem?_eq_some_iff.1 hbk).1
  have c0 : w.cell? ⟨b0, 0, none⟩ = some v := by rw [Lib.cell_of_heap hbk]; rfl
  have HL := Lib.hid hlen
  clear hlen
  have hl2 : (ps.length : Int) ≤ 1000000 := by rw [HL.out]; exact hl
  have info := PAll.info3
  have HB := Lib.hid hb
  have HR := Lib.hid hR
  have HK := Lib.hid hbk
  clear hR hb hbk
  go_enter Tryd.func55, Tryd.ntmps55
  go_wp2_with (at_builtin; go_must (refine Kd.R_append (Kd.int .i64) (w0 := w0) w0.heap.size rfl (.tmp 5) (.tmp 7) 33 3 (.int .i64 0) 8 rfl Tryd.underlying33 info rfl (by decide) (by omega) _ ps at_ [.int .i64 at_] (fun k => k ≠ b0) (fun _ => False) rfl rfl ?aP (fun _ hk => hk.elim) ?aF ?aO ?aB ?aS ?aL ?_); (case aP => exact rfl); (case aB => exact HB.out); (case aF => exact (fun k hk => by omega)); (case aO => exact HR.out); (case aS => exact HB.out.size); (case aL => omega); intro v1 w7 ho hb7 hg7 hat; obtain ⟨A1, c1, rfl⟩ := Kd.R_slice ho; have hbk7 : w7.heap[b0]? = some (.cells #[v] 33 (0, 0)) := (hg7.block b0 hlt (fun e => HR.out.1 b0 e.symm rfl)).trans HK.out; have c7 : w7.cell? ⟨b0, 0, none⟩ = some v := (by rw [Lib.cell_of_heap hbk7]; rfl); have f7 : w7.frozen? ⟨b0, 0, none⟩ = false := Lib.frozen_of_heap hbk7 0; have HB7 := Lib.hid hb7; have HR7 := Lib.hid ho; have HK7 := Lib.hid hbk7; clear hb7 ho hbk7 hg7 hat)
  go_wp2
  go_end0
  refine ⟨rfl, ⟨by have := HL.out; simp; omega, hB, .slice A1 (ps ++ [at_]).length c1, ?_, Kd.R_far (p := ⟨b0, 0, none⟩) HR7.out (fun k hk => hk) _⟩, HB7.out.setCell hB _⟩
  simp [World.setCell, Array.getElem?_modify, HK7.out]
end Go.Proofs.YtfcfehiijainpaaDoor
