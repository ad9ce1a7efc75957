/- utf.Decode by its contract. -/
import Derived.Test.YtfcfehiijainpaaDoorUtfM
import Derived.Test.YtfcfehiijainpaaDoorPAllx0
namespace Go.Proofs.YtfcfehiijainpaaDoor
open Go.RowKit Go.Proofs.YtfcfehiijainpaaDoorW.PrintWords Go.Proofs.YtfcfehiijainpaaDoorW.PrintMore
set_option linter.unusedVariables false
set_option linter.unusedSimpArgs false

def DecIs (E : Nat → Addr) (s : ByteArray) (w : World) (e : Ending) (w' : World) : Prop :=
  ∃ lv ev, e = .returned (.tuple #[lv, ev]) ∧ Kd.R (Kd.int .i32) 21 w' w.heap.size (fun _ => True) lv (dec s).1 ∧ ErrV E w' ev (dec s).2.1 (dec s).2.2 ∧ Below w.heap.size w w'

set_option maxHeartbeats 2000000 in
set_option maxRecDepth 100000 in
theorem utf_Decode_any {E : Nat → Addr} (s : ByteArray) (w : World) (hl : s.size ≤ 1000000) (hs : Sents E w) :
    Calls Tryd.prog 23 #[.string s] w (DecIs E s w) := by
  have info := PAll.info21
  go_enter Tryd.func23, Tryd.ntmps23
  go_wp2
  go_loopg [4, 5] s.size (fun k v4 v5 w' => ∃ (acc : List Int) (at_ : Int), v5 = .int .i64 at_ ∧ Hid (0 ≤ at_ ∧ at_ ≤ s.size ∧ s.size - at_ ≤ k ∧ (acc.length : Int) ≤ at_) ∧ Hid (dcd s k at_ acc = dec s) ∧ Hid (Kd.R (Kd.int .i32) 21 w' w.heap.size (fun _ => True) v4 acc) ∧ Hid (Below w.heap.size w w'))
  case atStart => exact ⟨[], 0, rfl, ⟨by omega, by omega, by omega, by simp⟩, rfl, Kd.R_nil _ _ _ _ _, Below.refl _ _⟩
  case round =>
    obtain ⟨acc, at_, rfl, HI, HD, HR, HB⟩ := hrel
    obtain ⟨i0, i1, i2, i3⟩ := HI.out
    by_cases hlt : at_ < s.size
    · cases gk with
      | zero => omega
      | succ k1 =>
        rcases hn : nx s at_ with ⟨r, n, c⟩
        by_cases hc : c = 0
        · subst hc
          have hg := nx_good s at_ r n hn
          have HD2 : Hid (dcd s k1 (at_ + n) (acc ++ [r]) = dec s) := by
            have := HD.out
            unfold dcd at this
            rw [if_neg (by omega), hn, if_pos rfl] at this
            exact this
          have HN := Lib.hid hn
          clear hn HD HI
          go_wp2_with fail
          refine (utf_Next_ok s at_ r n _ (by omega) (hs.below HB.out) HN.out).mono ?_
          rintro e w6 ⟨rfl, hb⟩
          have HR6 := Lib.hid (Kd.R_below HR.out hb)
          have HB6 := Lib.hid (below_step HB.out hb)
          clear HR HB hb
          go_wp2_with (at_builtin; go_must (refine Kd.R_append (Kd.int .i32) (w0 := w) w.heap.size rfl (.tmp 23) (.tmp 25) 39 21 (.int .i32 0) 4 rfl Tryd.underlying39 info rfl (by decide) (by omega) _ acc r [.int .i32 r] (fun _ => True) (fun _ => False) rfl rfl ?aP (fun _ hk => hk.elim) ?aF ?aO ?aB ?aS ?aL ?_); (case aP => exact rfl); (case aB => exact HB6.out); (case aF => exact (fun _ _ => trivial)); (case aO => exact HR6.out); (case aS => exact below_size HB6.out); (case aL => omega); intro v139 w7 ho hb hg7 hat; have HR7 := Lib.hid ho; have HB7 := Lib.hid hb; clear HR6 HB6 ho hb hg7 hat)
          go_roundg k1
          case measure => omega
          case rel => exact ⟨acc ++ [r], at_ + n, rfl, ⟨by omega, by omega, by omega, by simp; omega⟩, HD2, HR7, HB7⟩
        · have HD2 : Hid (dec s = ([], at_, c)) := by
            have := HD.out
            unfold dcd at this
            rw [if_neg (by omega), hn, if_neg hc] at this
            exact this.symm
          have HN := Lib.hid hn
          clear hn HD HI
          go_wp2_with fail
          refine (utf_Next_bad s at_ r n c _ (by omega) (hs.below HB.out) HN.out hc).mono ?_
          rintro e w6 ⟨p, rfl, he, hb⟩
          have HB6 := Lib.hid (below_step HB.out hb)
          clear HR HB hb
          go_wp2
          go_ret2
          exact ⟨_, _, rfl, by rw [HD2.out]; exact Kd.R_nil _ _ _ _ _, by rw [HD2.out]; exact he.out, HB6.out⟩
    · have HD2 : Hid (dec s = (acc, 0, 0)) := by
        have := HD.out
        cases gk with
        | zero => exact this.symm
        | succ k1 =>
          unfold dcd at this
          rw [if_pos (by omega)] at this
          exact this.symm
      clear HD HI
      go_wp2
      go_ret2
      exact ⟨_, _, rfl, by rw [HD2.out]; exact HR.out, by rw [HD2.out]; exact .inl ⟨rfl, rfl⟩, HB.out⟩
end Go.Proofs.YtfcfehiijainpaaDoor
