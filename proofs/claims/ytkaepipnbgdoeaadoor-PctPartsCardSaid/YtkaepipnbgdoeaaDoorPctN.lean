/- pct.Split by its contract. -/
import Derived.Test.YtkaepipnbgdoeaaDoorPctM
set_option linter.unusedVariables false
set_option linter.unusedSimpArgs false
namespace Go.Proofs.YtkaepipnbgdoeaaDoor
open Go.RowKit Go.Proofs.YtkaepipnbgdoeaaDoorW.PrintWords Go.Proofs.YtkaepipnbgdoeaaDoorW.PrintMore

/-- A text's parts by a byte, each unescaped; or the place and the number of what is wrong. -/
def splt (s : ByteArray) (c : Int) : Nat → Nat → List ByteArray → List ByteArray × Int × Int
  | 0, _, acc => (acc, 0, 0)
  | k + 1, fr, acc => if s.size < fr then (acc, 0, 0) else
    if (ue (s.extract fr (nb s c (s.size - fr) fr))).2.2.2 = 0 then splt s c k (nb s c (s.size - fr) fr + 1) (acc ++ [strOfNums (ue (s.extract fr (nb s c (s.size - fr) fr))).1])
    else ([], fr + (ue (s.extract fr (nb s c (s.size - fr) fr))).2.2.1, (ue (s.extract fr (nb s c (s.size - fr) fr))).2.2.2)
def spl (s : ByteArray) (c : Int) : List ByteArray × Int × Int := if c = 37 ∨ 0 ≤ hexd c then ([], 0, 1) else splt s c (s.size + 1) 0 []

theorem uesc_at (s : ByteArray) : ∀ (k : Nat) (at_ : Int) (bs ps : List Int), 0 ≤ at_ → 0 ≤ (uesc s k at_ bs ps).2.2.1 ∧ (uesc s k at_ bs ps).2.2.1 ≤ s.size
  | 0, _, _, _, h => by simp [uesc]
  | k + 1, at_, bs, ps, h => by
    unfold uesc
    split
    · simp
    · split
      · exact uesc_at s k _ _ _ (by omega)
      · split
        · simp; omega
        · split
          · simp; omega
          · exact uesc_at s k _ _ _ (by omega)
theorem ue_at (s : ByteArray) : 0 ≤ (ue s).2.2.1 ∧ (ue s).2.2.1 ≤ s.size := uesc_at s _ _ _ _ (Int.le_refl _)

def SplIs (E : Nat → Addr) (s : ByteArray) (c : Int) (w : World) (e : Ending) (w' : World) : Prop :=
  ∃ lv ev, e = .returned (.tuple #[lv, ev]) ∧ Kd.R Kd.string 9 w' w.heap.size (fun _ => True) lv (spl s c).1 ∧ ErrV E w' ev (spl s c).2.1 (spl s c).2.2 ∧ Below w.heap.size w w'

set_option maxHeartbeats 2000000 in
set_option maxRecDepth 100000 in
theorem pct_Split_any {E : Nat → Addr} (s : ByteArray) (c : Int) (w : World) (hl : s.size ≤ 100000) (h0 : 0 ≤ c) (h1 : c ≤ 255) (hs : Sents E w) :
    Calls Tryd.prog 11 #[.string s, .int .u8 c] w (SplIs E s c w) := by
  by_cases hbad : c = 37 ∨ 0 ≤ hexd c
  · have HB : Hid (spl s c = ([], 0, 1)) := by show _ = _; unfold spl; rw [if_pos hbad]
    have c1 := hs.c1
    by_cases h37 : c = 37
    · have h37b : (c == 37) = true := by rw [beq_iff_eq]; exact h37
      clear h37 hbad
      go_enter Tryd.func11, Tryd.ntmps11
      go_wp2_with (first | (go_at_call 34; refine (pct_fault_any _ _ _).mono ?_; rintro e w' ⟨rfl, rfl⟩))
      go_ret2
      exact ⟨_, _, rfl, by rw [HB.out]; exact Kd.R_nil _ _ _ _ _, by rw [HB.out]; exact ErrV.new rfl (by omega) (by omega), below_new (Below.refl _ _) _⟩
    · have h37b : (c == 37) = false := by rw [beq_eq_false_iff_ne]; exact h37
      have hx : 0 ≤ hexd c := by omega
      clear h37 hbad
      go_enter Tryd.func11, Tryd.ntmps11
      go_wp2_with (first | (go_at_call 33; refine (pct_digit_any _ _ h0 h1).mono ?_; rintro e w' ⟨rfl, rfl⟩) | (go_at_call 34; refine (pct_fault_any _ _ _).mono ?_; rintro e w' ⟨rfl, rfl⟩))
      go_ret2
      exact ⟨_, _, rfl, by rw [HB.out]; exact Kd.R_nil _ _ _ _ _, by rw [HB.out]; exact ErrV.new rfl (by omega) (by omega), below_new (Below.refl _ _) _⟩
  · have h37b : (c == 37) = false := by rw [beq_eq_false_iff_ne]; omega
    have hx : hexd c < 0 := by omega
    have hx2 : decide (0 ≤ hexd c) = false := by simp; omega
    have HS : Hid (spl s c = splt s c (s.size + 1) 0 []) := by show _ = _; unfold spl; rw [if_neg hbad]
    clear hbad
    have info := PAll.info9
    go_enter Tryd.func11, Tryd.ntmps11
    go_wp2_with (first | (go_at_call 33; refine (pct_digit_any _ _ h0 h1).mono ?_; rintro e w1 ⟨rfl, hw⟩; rw [hw]; clear hw))
    go_loopg [6, 8, 9, 10] (s.size + 1) (fun k v6 v8 v9 v10 w' => ∃ (acc : List ByteArray) (fr : Nat), Hid (fr ≤ s.size + 1 ∧ s.size + 1 ≤ fr + k ∧ acc.length ≤ fr) ∧ Hid (splt s c k fr acc = spl s c) ∧ Hid (Kd.R Kd.string 9 w' w.heap.size (fun k => k ≠ w.heap.size) v6 acc) ∧ Hid (w'.heap[w.heap.size]? = some (.cells #[.int .i64 fr] 3 (0, 0))) ∧ Hid (Below w.heap.size w w'))
    case atStart =>
      exact ⟨[], 0, ⟨Nat.zero_le _, by omega, by simp⟩, HS.out.symm, Kd.R_nil _ _ _ _ _, heap_alloc_new w _, below_new (Below.refl _ _) _⟩
    case round =>
      obtain ⟨acc, fr, HI, HD, HR, HK, HB⟩ := hrel
      obtain ⟨i1, i2, i3⟩ := HI.out
      have hlt : w.heap.size < wr.heap.size := (Array.getElem?_eq_some_iff.1 HK.out).1
      have hc0 : wr.cell? ⟨w.heap.size, 0, none⟩ = some (.int .i64 fr) := by rw [Lib.cell_of_heap HK.out]; rfl
      have hf0 : wr.frozen? ⟨w.heap.size, 0, none⟩ = false := Lib.frozen_of_heap HK.out 0
      by_cases hle : fr ≤ s.size
      · cases gk with
        | zero => omega
        | succ k1 =>
          obtain ⟨t1, t2, _, _⟩ := nb_tells s c (s.size - fr) fr (by omega)
          obtain ⟨T, HT⟩ : ∃ T, Hid (nb s c (s.size - fr) fr = T) := ⟨_, rfl⟩
          rw [HT.out] at t1 t2
          obtain ⟨bs, ps, at_, n, HU⟩ : ∃ bs ps at_ n, Hid (ue (s.extract fr T) = (bs, ps, at_, n)) := ⟨_, _, _, _, rfl⟩
          have hpl : (s.extract fr T).size ≤ 100000 := by rw [ByteArray.size_extract]; omega
          rcases index_nb s c h0 h1 fr hle with ⟨e1, e2⟩ | ⟨o, e1, e2, e3⟩
          · have hTe : T = s.size := by rw [← HT.out]; exact e2
            rw [hTe] at HU hpl HT
            have HTE := Lib.hid hTe
            clear hTe
            have E1 := Lib.hid e1
            clear e1 e2
            go_wp2_with fail
            refine (strings_IndexByte _ _ _).mono ?_
            rintro e w2 ⟨rfl, hw⟩
            rw [hw, E1.out]
            clear hw E1
            go_wp2_with fail
            refine (pct_Unescape_at (s.extract fr s.size) bs ps at_ n _ (by omega) (hs.below HB.out) HU.out).mono ?_
            rintro e w3 ⟨v, rfl, hE, hb3⟩
            have HB3 := Lib.hid (below_step HB.out hb3)
            have HR3 := Lib.hid (Kd.R_below HR.out hb3)
            have HK3 : Hid (w3.heap[w.heap.size]? = some (.cells #[.int .i64 fr] 3 (0, 0))) := (hb3.block _ hlt).trans HK.out
            have hlt3 : w.heap.size < w3.heap.size := (Array.getElem?_eq_some_iff.1 HK3.out).1
            have hc3 : w3.cell? ⟨w.heap.size, 0, none⟩ = some (.int .i64 fr) := by rw [Lib.cell_of_heap HK3.out]; rfl
            clear hb3 HB HR HK hc0 hf0 hlt
            by_cases hn : n = 0
            · obtain rfl : v = .nilIface := by
                rcases hE.out with ⟨_, h⟩ | ⟨h, _⟩
                · exact h
                · omega
              have HD2 : Hid (splt s c k1 (s.size + 1) (acc ++ [strOfNums bs]) = spl s c) := by
                have := HD.out
                unfold splt at this
                rw [if_neg (by omega), HT.out, HU.out, if_pos hn] at this
                exact this
              have HI2 : Hid (s.size + 1 ≤ s.size + 1 ∧ s.size + 1 ≤ s.size + 1 + k1 ∧ (acc ++ [strOfNums bs]).length ≤ s.size + 1) := ⟨by omega, by omega, by simp; omega⟩
              clear hE hn HD HI
              go_wp2_with (at_builtin; go_must (refine Kd.R_append Kd.string (w0 := w) w.heap.size rfl (.tmp 50) (.tmp 52) 23 9 (.string ⟨#[]⟩) 16 rfl Tryd.underlying23 info rfl (by decide) (by omega) _ acc (strOfNums bs) [.string (strOfNums bs)] (fun k => k ≠ w.heap.size) (fun _ => False) rfl rfl ?aP (fun _ hk => hk.elim) ?aF ?aO ?aB ?aS ?aL ?_); (case aP => exact rfl); (case aB => exact HB3.out); (case aF => exact (fun k hk => by omega)); (case aO => exact HR3.out); (case aS => exact HB3.out.size); (case aL => omega); intro v7 w7 ho hb7 hg7 hat; have hbk7 : w7.heap[w.heap.size]? = some (.cells #[.int .i64 fr] 3 (0, 0)) := (hg7.block _ hlt3 (fun e => HR3.out.1 _ e.symm rfl)).trans HK3.out; have c7 : w7.cell? ⟨w.heap.size, 0, none⟩ = some (.int .i64 fr) := (by rw [Lib.cell_of_heap hbk7]; rfl); have f7 : w7.frozen? ⟨w.heap.size, 0, none⟩ = false := Lib.frozen_of_heap hbk7 0; have HB7 := Lib.hid hb7; have HR7 := Lib.hid ho; have HK7 := Lib.hid hbk7; clear hb7 ho hbk7 hg7 hat)
              have HK8 : ∀ x : Value, Hid ((w7.setCell ⟨w.heap.size, 0, none⟩ x).heap[w.heap.size]? = some (.cells #[x] 3 (0, 0))) := by
                intro x; show _ = _; simp [World.setCell, Array.getElem?_modify, HK7.out]
              go_roundg k1
              case measure => omega
              case rel => exact ⟨acc ++ [strOfNums bs], s.size + 1, HI2, HD2, Kd.R_far (p := ⟨w.heap.size, 0, none⟩) HR7.out (fun k hk => hk) _, by first | exact (HK8 _).out | (rw [show ((fr : Int) + ((s.size : Int) - (fr : Int) + 1)) = ((s.size + 1 : Nat) : Int) by omega]; exact (HK8 _).out) | (have := (HK8 (.int .i64 ((s.size + 1 : Nat) : Int))).out; push_cast at this; exact this), HB7.out.setCell (Nat.le_refl _) _⟩
            · have hat := ue_at (s.extract fr s.size)
              rw [HU.out] at hat
              obtain ⟨b, rfl, h4, h5, n1, n2⟩ : ∃ b, v = .iface 65 (.pointer (some ⟨b, 0, none⟩)) ∧ w3.cell? ⟨b, 0, none⟩ = some (.int .i64 at_) ∧ w3.cell? ⟨b, 1, none⟩ = some (.iface 126 (.pointer (some (E n.toNat)))) ∧ 1 ≤ n ∧ n ≤ 18 := by
                rcases hE.out with ⟨h, _⟩ | ⟨g1, g2, b, h, h4, h5⟩
                · exact absurd h hn
                · exact ⟨b, h, h4, h5, g1, g2⟩
              have HD2 : Hid (spl s c = ([], fr + at_, n)) := by
                have := HD.out
                unfold splt at this
                rw [if_neg (by omega), HT.out, HU.out, if_neg hn] at this
                exact this.symm
              have hmv := moved_Split (E := E) b w.heap.size fr at_ n w3 (hs.below HB3.out) n1 n2 h4 h5 hc3 (by omega) (by omega) hat.1 (by simp only at hat; omega)
              have HMV := Lib.hid hmv
              clear hmv h4 h5 hc3 hn hE HD HI hat
              go_wp2_with fail
              refine HMV.out.mono ?_
              rintro e w4 ⟨p, rfl, hE4, hb4⟩
              go_wp2
              go_ret2
              exact ⟨_, _, rfl, by rw [HD2.out]; exact Kd.R_nil _ _ _ _ _, by rw [HD2.out]; exact hE4.out, below_step HB3.out hb4⟩
          · have hTe : T = fr + o := by rw [← HT.out]; exact e2
            rw [hTe] at HU hpl HT
            have HTE := Lib.hid hTe
            clear hTe
            have E1 := Lib.hid e1
            clear e1 e2
            go_wp2_with fail
            refine (strings_IndexByte _ _ _).mono ?_
            rintro e w2 ⟨rfl, hw⟩
            rw [hw, E1.out]
            clear hw E1
            go_wp2_with fail
            refine (pct_Unescape_at (s.extract fr (fr + o)) bs ps at_ n _ (by omega) (hs.below HB.out) HU.out).mono ?_
            rintro e w3 ⟨v, rfl, hE, hb3⟩
            have HB3 := Lib.hid (below_step HB.out hb3)
            have HR3 := Lib.hid (Kd.R_below HR.out hb3)
            have HK3 : Hid (w3.heap[w.heap.size]? = some (.cells #[.int .i64 fr] 3 (0, 0))) := (hb3.block _ hlt).trans HK.out
            have hlt3 : w.heap.size < w3.heap.size := (Array.getElem?_eq_some_iff.1 HK3.out).1
            have hc3 : w3.cell? ⟨w.heap.size, 0, none⟩ = some (.int .i64 fr) := by rw [Lib.cell_of_heap HK3.out]; rfl
            clear hb3 HB HR HK hc0 hf0 hlt
            by_cases hn : n = 0
            · obtain rfl : v = .nilIface := by
                rcases hE.out with ⟨_, h⟩ | ⟨h, _⟩
                · exact h
                · omega
              have HD2 : Hid (splt s c k1 (fr + o + 1) (acc ++ [strOfNums bs]) = spl s c) := by
                have := HD.out
                unfold splt at this
                rw [if_neg (by omega), HT.out, HU.out, if_pos hn] at this
                exact this
              have HI2 : Hid (fr + o + 1 ≤ s.size + 1 ∧ s.size + 1 ≤ fr + o + 1 + k1 ∧ (acc ++ [strOfNums bs]).length ≤ fr + o + 1) := ⟨by omega, by omega, by simp; omega⟩
              clear hE hn HD HI
              go_wp2_with (at_builtin; go_must (refine Kd.R_append Kd.string (w0 := w) w.heap.size rfl (.tmp 50) (.tmp 52) 23 9 (.string ⟨#[]⟩) 16 rfl Tryd.underlying23 info rfl (by decide) (by omega) _ acc (strOfNums bs) [.string (strOfNums bs)] (fun k => k ≠ w.heap.size) (fun _ => False) rfl rfl ?aP (fun _ hk => hk.elim) ?aF ?aO ?aB ?aS ?aL ?_); (case aP => exact rfl); (case aB => exact HB3.out); (case aF => exact (fun k hk => by omega)); (case aO => exact HR3.out); (case aS => exact HB3.out.size); (case aL => omega); intro v7 w7 ho hb7 hg7 hat; have hbk7 : w7.heap[w.heap.size]? = some (.cells #[.int .i64 fr] 3 (0, 0)) := (hg7.block _ hlt3 (fun e => HR3.out.1 _ e.symm rfl)).trans HK3.out; have c7 : w7.cell? ⟨w.heap.size, 0, none⟩ = some (.int .i64 fr) := (by rw [Lib.cell_of_heap hbk7]; rfl); have f7 : w7.frozen? ⟨w.heap.size, 0, none⟩ = false := Lib.frozen_of_heap hbk7 0; have HB7 := Lib.hid hb7; have HR7 := Lib.hid ho; have HK7 := Lib.hid hbk7; clear hb7 ho hbk7 hg7 hat)
              have HK8 : ∀ x : Value, Hid ((w7.setCell ⟨w.heap.size, 0, none⟩ x).heap[w.heap.size]? = some (.cells #[x] 3 (0, 0))) := by
                intro x; show _ = _; simp [World.setCell, Array.getElem?_modify, HK7.out]
              go_roundg k1
              case measure => omega
              case rel => exact ⟨acc ++ [strOfNums bs], fr + o + 1, HI2, HD2, Kd.R_far (p := ⟨w.heap.size, 0, none⟩) HR7.out (fun k hk => hk) _, by first | exact (HK8 _).out | (rw [show ((fr : Int) + ((s.size : Int) - (fr : Int) + 1)) = ((s.size + 1 : Nat) : Int) by omega]; exact (HK8 _).out) | (have := (HK8 (.int .i64 ((fr + o + 1 : Nat) : Int))).out; push_cast at this; exact this), HB7.out.setCell (Nat.le_refl _) _⟩
            · have hat := ue_at (s.extract fr (fr + o))
              rw [HU.out] at hat
              obtain ⟨b, rfl, h4, h5, n1, n2⟩ : ∃ b, v = .iface 65 (.pointer (some ⟨b, 0, none⟩)) ∧ w3.cell? ⟨b, 0, none⟩ = some (.int .i64 at_) ∧ w3.cell? ⟨b, 1, none⟩ = some (.iface 126 (.pointer (some (E n.toNat)))) ∧ 1 ≤ n ∧ n ≤ 18 := by
                rcases hE.out with ⟨h, _⟩ | ⟨g1, g2, b, h, h4, h5⟩
                · exact absurd h hn
                · exact ⟨b, h, h4, h5, g1, g2⟩
              have HD2 : Hid (spl s c = ([], fr + at_, n)) := by
                have := HD.out
                unfold splt at this
                rw [if_neg (by omega), HT.out, HU.out, if_neg hn] at this
                exact this.symm
              have hmv := moved_Split (E := E) b w.heap.size fr at_ n w3 (hs.below HB3.out) n1 n2 h4 h5 hc3 (by omega) (by omega) hat.1 (by simp only at hat; omega)
              have HMV := Lib.hid hmv
              clear hmv h4 h5 hc3 hn hE HD HI hat
              go_wp2_with fail
              refine HMV.out.mono ?_
              rintro e w4 ⟨p, rfl, hE4, hb4⟩
              go_wp2
              go_ret2
              exact ⟨_, _, rfl, by rw [HD2.out]; exact Kd.R_nil _ _ _ _ _, by rw [HD2.out]; exact hE4.out, below_step HB3.out hb4⟩
      · have HD2 : Hid (spl s c = (acc, 0, 0)) := by
          have := HD.out
          cases gk with
          | zero => exact this.symm
          | succ k1 =>
            unfold splt at this
            rw [if_pos (by omega)] at this
            exact this.symm
        clear HD HI
        go_wp2
        go_ret2
        exact ⟨_, _, rfl, by rw [HD2.out]; exact Kd.R_mono HR.out (fun _ _ => trivial), by rw [HD2.out]; exact .inl ⟨rfl, rfl⟩, HB.out⟩
end Go.Proofs.YtkaepipnbgdoeaaDoor
