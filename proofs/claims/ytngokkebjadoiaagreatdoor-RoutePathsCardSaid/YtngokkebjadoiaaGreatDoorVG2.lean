/- What the claim uses of the text G2. -/
import Derived.Test.YtngokkebjadoiaaGreatDoorVG1
import Derived.Deep.RegionWith
set_option linter.unusedVariables false
namespace Go.Proofs.YtngokkebjadoiaaGreatDoor
open Go.RowKit Go.PlainAid
open Go.Proofs.YtngokkebjadoiaaGreatDoorW.PrintWords (below_step)

theorem SetAt.below {b : Nat} {f : Nat → Bool} {w w' : World} (h : SetAt b f w) (hb : Below w.heap.size w w') : SetAt b f w' := (hb.block b h.lt).trans h
def alnum (i : Nat) : Bool := decide ((97 ≤ i ∧ i ≤ 122) ∨ (65 ≤ i ∧ i ≤ 90) ∨ (48 ≤ i ∧ i ≤ 57))
def plainB (i : Nat) : Bool := decide ((97 ≤ i ∧ i ≤ 122) ∨ (65 ≤ i ∧ i ≤ 90) ∨ (48 ≤ i ∧ i ≤ 57) ∨ i = 45 ∨ i = 46 ∨ i = 95 ∨ i = 126)
theorem tab_congr {f g : Nat → Bool} (h : ∀ i, i < 256 → f i = g i) : tab f = tab g := by
  unfold tab
  congr 1
  apply List.map_congr_left
  intro i hi
  rw [h i (by simpa using hi)]
theorem plain_tab : tab (fun i => (alnum i && decide (i < 256)) || bin ⟨#[45, 46, 95, 126]⟩ i) = tab plainB := by
  apply tab_congr
  intro i hi
  rw [Bool.eq_iff_iff]
  simp [alnum, bin, ints, plainB, hi]
  omega
theorem alnum_step (i : Nat) (h : alnum i = true) : (fun j => if j = i then true else alnum j && decide (j < i)) = fun j => alnum j && decide (j < i + 1) := by
  funext j
  by_cases e : j = i
  · subst e; simp [h]
  · rw [if_neg e]; congr 1; rw [Bool.eq_iff_iff]; simp; omega
theorem alnum_stay (i : Nat) (h : alnum i = false) : (fun j => alnum j && decide (j < i)) = fun j => alnum j && decide (j < i + 1) := by
  funext j
  by_cases e : j = i
  · subst e; simp [h]
  · congr 1; rw [Bool.eq_iff_iff]; simp; omega

set_option maxHeartbeats 1000000 in
set_option maxRecDepth 100000 in
theorem pct_plain_any (w : World) :
    Calls Tryz.prog 29 #[] w fun e w' => e = .returned (.agg (tab plainB)) ∧ Below w.heap.size w w' := by
  have HZ : Hid (SetAt w.heap.size (fun _ => false) ((w.alloc (Obj.cells Tryz.zeroCells67 67)).alloc (Obj.cells Tryz.zeroCells67 67))) := by
    show SetAt _ _ _
    unfold SetAt
    rw [← zero_tab]
    exact (Go.heap_alloc_old (w.alloc (Obj.cells Tryz.zeroCells67 67)) (Obj.cells Tryz.zeroCells67 67) (by simp)).trans (Go.heap_alloc_new w _)
  have HZ2 : Hid (SetAt (w.heap.size + 1) (fun _ => false) ((w.alloc (Obj.cells Tryz.zeroCells67 67)).alloc (Obj.cells Tryz.zeroCells67 67))) := by
    show SetAt _ _ _
    unfold SetAt
    rw [← zero_tab, show w.heap.size + 1 = (w.alloc (Obj.cells Tryz.zeroCells67 67)).heap.size by simp]
    exact Go.heap_alloc_new _ _
  go_enter Tryz.func29, Tryz.ntmps29
  go_wp2
  go_loopg [3] 256 (fun k v3 w' => ∃ i : Nat, v3 = .int .i64 i ∧ Hid (i + k = 256) ∧ Hid (SetAt (w.heap.size + 1) (fun j => alnum j && decide (j < i)) w') ∧ Hid (SetAt w.heap.size (fun _ => false) w') ∧ Hid (Below w.heap.size w w'))
  case atStart => exact ⟨0, rfl, by show _ = _; omega, by show SetAt _ _ _; simpa using HZ2.out, HZ.out, ((Below.refl _ _).alloc (Nat.le_refl _) _).alloc (by simp) _⟩
  case round =>
    obtain ⟨i, rfl, HI, H1, H2, HB⟩ := hrel
    clear HZ HZ2
    by_cases hlt : i < 256
    · cases gk with
      | zero => have := HI.out; omega
      | succ k1 =>
        have hc := H1.out.cell i hlt
        have hf := H1.out.frozen i
        have HI2 : Hid (i + 1 + k1 = 256) := by have := HI.out; show _ = _; omega
        by_cases ha : alnum i = true
        · have HA := Lib.hid ha
          have HA2 := ha
          unfold alnum at ha
          rw [decide_eq_true_iff] at ha
          clear HA2
          go_wp2
          all_goals
            go_roundg k1
            case measure => omega
            case rel => exact ⟨i + 1, by go_num, HI2, by first | (rw [← alnum_step i HA.out]; exact H1.out.set i hlt true) | (exfalso; omega), H2.out.other (by omega) _, HB.out.setCell (by simp) _⟩
        · have HA : Hid (alnum i = false) := by show _ = _; simpa using ha
          have HA2 : ¬ ((97 ≤ i ∧ i ≤ 122) ∨ (65 ≤ i ∧ i ≤ 90) ∨ (48 ≤ i ∧ i ≤ 57)) := by
            intro h; apply ha; unfold alnum; rw [decide_eq_true_iff]; exact h
          clear ha
          go_wp2
          all_goals
            go_roundg k1
            case measure => omega
            case rel => exact ⟨i + 1, by go_num, HI2, by first | (rw [← alnum_stay i HA.out]; exact H1.out) | (exfalso; omega), by first | exact H2.out | (exfalso; omega), by first | exact HB.out | (exfalso; omega)⟩
    · have HP : Hid (tab (fun i => (fun j => alnum j && decide (j < 256)) i || bin ⟨#[45, 46, 95, 126]⟩ i) = tab plainB) := plain_tab
      have HI2 : i = 256 := by have := HI.out; omega
      subst HI2
      go_wp2_with (first | ((with_reducible refine wpl_load_set H1.out ?hx ?_); (case hx => rfl)) | (go_at_call 30; refine (set_with_any _ ⟨#[45, 46, 95, 126]⟩ _ (by decide)).mono ?_; rintro e w2 ⟨rfl, hb2⟩; rw [HP.out]; have H2' := Lib.hid (SetAt.below H2.out hb2); have HB' := Lib.hid (below_step HB.out hb2); clear hb2; have HR2 := Lib.hid (SetAt.row (c := 0) (g := plainB) H2'.out)) | ((with_reducible refine wpl_store_set (g := plainB) H2'.out ?hx ?hy ?_); (case hx => rfl); (case hy => rfl)))
      (try simp only [Exit.inBlock, Exit.then])
      refine bodyPost_ret (v := .agg (tab plainB)) ?_ rfl ⟨rfl, below_setRow HB'.out (by omega)⟩
      exact results_cell_row rfl _ _ _ _ _ _ _ rfl HR2.out Tryz.underlying67 rfl (by rw [tab_size]; exact info_set)

/-- The place of a digit. -/
def hexc (n : Int) : Int := if n < 10 then 48 + n else 55 + n
/-- The escaped form of a byte, of a text. -/
def esc1 (st : Nat → Bool) (b : Int) : List Int := if st b.toNat = true then [b] else [37, hexc (b / 16), hexc (b % 16)]
def escL (st : Nat → Bool) (l : List Int) : List Int := (l.map (esc1 st)).flatten
def stay (keep : ByteArray) (j : Nat) : Bool := if j = 37 then false else (plainB j || bin keep j)

theorem dig_fin : ∀ n : Fin 16, ((⟨#[48, 49, 50, 51, 52, 53, 54, 55, 56, 57, 65, 66, 67, 68, 69, 70]⟩ : ByteArray)[n.val]'(n.isLt)).toNat = hexc (n.val : Int) := by decide +kernel
theorem dig_at (n : Int) (h0 : 0 ≤ n) (h1 : n ≤ 15) {h : n.toNat < (⟨#[48, 49, 50, 51, 52, 53, 54, 55, 56, 57, 65, 66, 67, 68, 69, 70]⟩ : ByteArray).size} : ((((⟨#[48, 49, 50, 51, 52, 53, 54, 55, 56, 57, 65, 66, 67, 68, 69, 70]⟩ : ByteArray)[n.toNat]'h).toNat : Nat) : Int) = hexc n := by
  have := dig_fin ⟨n.toNat, h⟩
  rw [this]; congr 1; simp; omega
theorem hexc_range (n : Int) (h0 : 0 ≤ n) (h1 : n ≤ 15) : 0 ≤ hexc n ∧ hexc n ≤ 255 := by unfold hexc; omega

theorem escL_len (st : Nat → Bool) : ∀ l : List Int, (escL st l).length ≤ 3 * l.length
  | [] => by simp [escL]
  | x :: l => by
    have := escL_len st l
    have h : (esc1 st x).length ≤ 3 := by unfold esc1; split <;> simp
    simp [escL] at *
    omega
theorem escL_take (st : Nat → Bool) (s : ByteArray) (i : Nat) (h : i < s.size) : escL st ((ints s).take (i + 1)) = escL st ((ints s).take i) ++ esc1 st (bt s i) := by
  have h' : i < (ints s).length := by rw [ints_length]; exact h
  have e : (ints s)[i] = bt s i := by rw [bt_ints, List.getD_eq_getElem?_getD, List.getElem?_eq_getElem h']; rfl
  rw [List.take_succ_eq_append_getElem h', e]
  simp [escL]

set_option maxHeartbeats 1000000 in
set_option maxRecDepth 100000 in
theorem pct_Escape_any (s keep : ByteArray) (w : World) (hs : s.size ≤ 100000) (hk : keep.size ≤ 100000) :
    Calls Tryz.prog 11 #[.string s, .string keep] w fun e w' => e = .returned (.string (strOfNums (escL (stay keep) (ints s)))) ∧ Below w.heap.size w w' := by
  have hbt := get_bt s
  go_enter Tryz.func11, Tryz.ntmps11
  go_wp2_with (first | (go_at_call 29; refine (pct_plain_any _).mono ?_; rintro e w1 ⟨rfl, hb1⟩) | (go_at_call 30; refine (set_with_any _ keep _ (by omega)).mono ?_; rintro e w2 ⟨rfl, hb2⟩; have hb := Lib.hid (below_step hb1 hb2); clear hb1 hb2; have H2 : Hid (SetAt w2.heap.size (fun _ => false) (w2.alloc (Obj.cells Tryz.zeroCells67 67))) := (by rw [zero_tab]; exact Go.heap_alloc_new _ _); have H3 := Lib.hid (SetAt.row (c := 0) (g := fun i => plainB i || bin keep i) H2.out); have hc := H3.out.cell 37 (by omega); have hf := H3.out.frozen 37) | ((with_reducible refine wpl_store_set (g := fun i => plainB i || bin keep i) H2.out ?hx ?hy ?_); (case hx => rfl); (case hy => rfl)))
  obtain ⟨w4, HW4⟩ : ∃ w4, Hid (((w2.alloc (Obj.cells Tryz.zeroCells67 67)).setRow w2.heap.size (tab fun i => plainB i || bin keep i)).setCell { block := w2.heap.size, off := 37 } (Value.bool false) = w4) := ⟨_, rfl⟩
  have hz : Hid (w4.heap.size = w2.heap.size + 1) := by show _ = _; rw [← HW4.out]; simp [World.setRow, World.setCell]
  have H4 : Hid (SetAt w2.heap.size (stay keep) w4) := by rw [← HW4.out]; exact H3.out.set 37 (by omega) false
  have HB4 : Hid (Below w.heap.size w w4) := by
    rw [← HW4.out]
    exact (below_setRow (hb.out.alloc hb.out.size _) hb.out.size).setCell hb.out.size _
  rw [HW4.out, ← hz.out]
  have H0 : Hid (Bld w4.heap.size w4.heap.size [] (w4.alloc (.cells #[.pointer none, .slice none 0 0] 73))) := ⟨by simp, Lib.fresh_isBuilder _ _ w4⟩
  have hlt4 := H4.out.lt
  clear hc hf H2 H3 HW4 hz hb
  go_loopg [7] s.size (fun k v7 w' => ∃ i : Nat, v7 = .int .i64 i ∧ Hid (i + k = s.size) ∧ Hid (Bld w4.heap.size w4.heap.size (escL (stay keep) ((ints s).take i)) w') ∧ Hid (Below w4.heap.size w4 w'))
  case atStart => exact ⟨0, rfl, by show _ = _; omega, H0.out, (Below.refl _ _).alloc (Nat.le_refl _) _⟩
  case round =>
    obtain ⟨i, rfl, HI, H1, HB⟩ := hrel
    clear H0
    have hlen : ((escL (stay keep) ((ints s).take i)).length : Int) ≤ 1000000 := by
      have := escL_len (stay keep) ((ints s).take i)
      have h2 : ((ints s).take i).length ≤ s.size := by rw [List.length_take, ints_length]; omega
      omega
    by_cases hlt : i < s.size
    · cases gk with
      | zero => have := HI.out; omega
      | succ k1 =>
        have n0 := bt_nonneg s i
        have l0 := bt_le s i
        have hE := escL_take (stay keep) s i hlt
        have HE := Lib.hid hE
        clear hE
        have hc := (H4.out.below HB.out).cell (bt s i).toNat (by omega)
        have HI2 : Hid (i + 1 + k1 = s.size) := by have := HI.out; show _ = _; omega
        by_cases hst : stay keep (bt s i).toNat = true
        · have HST : Hid (esc1 (stay keep) (bt s i) = [bt s i]) := by show _ = _; unfold esc1; rw [if_pos hst]
          rw [hst] at hc
          clear hst
          have HWr := Lib.hid (H1.out.write (bt s i) n0 l0 (by omega) HB.out)
          go_wp2_with fail
          refine HWr.out.mono ?_
          rintro e w6 ⟨rfl, hB6, hb6⟩
          go_wp2_with fail
          go_roundg k1
          case measure => omega
          case rel => exact ⟨i + 1, by go_num, HI2, by rw [HE.out, HST.out]; exact hB6, hb6⟩
        · have HST : Hid (esc1 (stay keep) (bt s i) = [37, hexc (bt s i / 16), hexc (bt s i % 16)]) := by show _ = _; unfold esc1; rw [if_neg hst]
          rw [show stay keep (bt s i).toNat = false by simpa using hst] at hc
          clear hst
          have HWr := Lib.hid (H1.out.write 37 (by omega) (by omega) (by omega) HB.out)
          go_wp2_with fail
          refine HWr.out.mono ?_
          rintro e w6 ⟨rfl, hB6, hb6⟩
          clear HWr H1 HB
          go_wp2_with fail
          have b1 := hexc_range (bt s i / 16) (by omega) (by omega)
          have b2 := hexc_range (bt s i % 16) (by omega) (by omega)
          rw [dig_at (bt s i / 16) (by omega) (by omega)]
          refine (hB6.write (hexc (bt s i / 16)) b1.1 b1.2 (by simp; omega) hb6).mono ?_
          rintro e w7 ⟨rfl, hB7, hb7⟩
          clear hB6 hb6
          go_wp2_with fail
          rw [dig_at (bt s i % 16) (by omega) (by omega)]
          refine (hB7.write (hexc (bt s i % 16)) b2.1 b2.2 (by simp; omega) hb7).mono ?_
          rintro e w8 ⟨rfl, hB8, hb8⟩
          clear hB7 hb7
          go_wp2_with fail
          go_roundg k1
          case measure => omega
          case rel => exact ⟨i + 1, by go_num, HI2, by rw [HE.out, HST.out]; simpa using hB8, hb8⟩
    · have HTX : Hid ((ints s).take i = ints s) := by show _ = _; rw [List.take_of_length_le (by rw [ints_length]; omega)]
      rw [HTX.out] at H1
      have HT := Lib.hid (H1.out.text HB.out)
      clear H1 HI
      go_wp2_with fail
      refine HT.out.mono ?_
      rintro e w6 ⟨rfl, hb6⟩
      go_wp2
      go_ret
      exact ⟨rfl, below_step HB4.out hb6.out⟩
end Go.Proofs.YtngokkebjadoiaaGreatDoor

