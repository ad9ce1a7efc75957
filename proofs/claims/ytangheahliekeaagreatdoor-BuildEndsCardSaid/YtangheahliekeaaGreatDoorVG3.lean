/- What the claim uses of the text G3. -/
import Derived.Test.YtangheahliekeaaGreatDoorVG0
import Derived.Test.YtangheahliekeaaGreatDoorVG2
import Derived.Laws.BitsAllLaws
import Derived.Laws.ResultCell
set_option linter.unusedVariables false
set_option linter.unusedSimpArgs false
namespace Go.Proofs.YtangheahliekeaaGreatDoor
open Go.RowKit Go.PlainAid
open Go.Proofs.YtangheahliekeaaGreatDoorW.PrintWords hiding bt
open Go.Proofs.YtangheahliekeaaGreatDoorW.PrintMore

/-- Sixteen bytes. -/
def arr (f : Nat → Nat) : Array Value := ((List.range 16).map fun i => Value.int .u8 (f i)).toArray
theorem arr_size (f : Nat → Nat) : (arr f).size = 16 := by simp [arr]
theorem arr_get (f : Nat → Nat) (i : Nat) (h : i < 16) : (arr f)[i]? = some (.int .u8 (f i)) := by simp [arr, h]
theorem arr_set (f : Nat → Nat) (i v : Nat) (h : i < 16) : (arr f).setIfInBounds i (.int .u8 v) = arr fun j => if j = i then v else f j := by
  apply Array.ext_getElem?
  intro j
  by_cases hj : j < 16
  · rw [arr_get _ j hj, Array.getElem?_setIfInBounds]
    by_cases e : i = j
    · subst e; simp [arr_size, h]
    · rw [if_neg e, arr_get _ j hj, if_neg (fun x => e x.symm)]
  · rw [Array.getElem?_eq_none (by rw [Array.size_setIfInBounds, arr_size]; omega), Array.getElem?_eq_none (by rw [arr_size]; omega)]
theorem arr_one (f : Nat → Nat) : (arr f).all (·.oneCell') = true := by
  rw [Array.all_eq_true]
  intro i h
  simp [arr, Value.oneCell']
theorem arr_congr {f g : Nat → Nat} (h : ∀ i, i < 16 → f i = g i) : arr f = arr g := by
  unfold arr
  congr 1
  apply List.map_congr_left
  intro i hi
  rw [h i (by simpa using hi)]
theorem info_arr : (Tryz.prog.info? 22).map (·.size) = some 16 := by kernel_rfl
def z16 : Array Value := #[.int .u8 0, .int .u8 0, .int .u8 0, .int .u8 0, .int .u8 0, .int .u8 0, .int .u8 0, .int .u8 0, .int .u8 0, .int .u8 0, .int .u8 0, .int .u8 0, .int .u8 0, .int .u8 0, .int .u8 0, .int .u8 0]
theorem zero_arr : z16 = arr fun _ => 0 := by kernel_rfl
/-- A block of the call's own that holds sixteen bytes. -/
def ArrAt (b : Nat) (f : Nat → Nat) (w : World) : Prop := Row 22 b (arr f) w
section
variable {b : Nat} {f g : Nat → Nat} {w w' : World}
theorem ArrAt.cell (h : ArrAt b f w) (i : Nat) (hi : i < 16) : w.cell? ⟨b, i, none⟩ = some (.int .u8 (f i)) := Row.cell h i _ (arr_get f i hi)
theorem ArrAt.frozen (h : ArrAt b f w) (i : Nat) : w.frozen? ⟨b, i, none⟩ = false := Row.frozen h i
theorem ArrAt.lt (h : ArrAt b f w) : b < w.heap.size := Row.lt h
theorem ArrAt.set (h : ArrAt b f w) (i : Nat) (hi : i < 16) (v : Nat) : ArrAt b (fun j => if j = i then v else f j) (w.setCell ⟨b, i, none⟩ (.int .u8 v)) := by
  unfold ArrAt
  rw [← arr_set f i v hi]
  exact Row.setCell h i _
theorem ArrAt.far (h : ArrAt b f w) {c o : Nat} (hc : b ≠ c) (v : Value) : ArrAt b f (w.setCell ⟨c, o, none⟩ v) := Row.far h hc v
theorem ArrAt.below (h : ArrAt b f w) (hb : Below w.heap.size w w') : ArrAt b f w' := Row.below h hb
theorem ArrAt.row (h : ArrAt b f w) : ArrAt b g (w.setRow b (arr g)) := Row.set h
end
section
variable {ops : Array Oper} {rest : List Oper} {a : Act} {w : World} {Q : Exit → Act → World → Prop} {dst : Option Tmp} {x y : Operand} {ty : TypeId} {pos : String} {after : Array Edge} {b : Nat} {f g : Nat → Nat}
theorem wpl_load_arr (H : ArrAt b f w) (hx : a.eval x = .pointer (some ⟨b, 0, none⟩)) (h : wpList Tryz.prog ops Q rest (a.put dst (.agg (arr f))) w) :
    wpList Tryz.prog ops Q ({ dst := dst, op := .load 22 x, type := ty, pos := pos, after := after, guard := none } :: rest) a w :=
  wpList_load_row rfl 22 x rfl b hx 22 _ (0, 0) _ H Tryz.underlying22 rfl (by rw [arr_size]; exact info_arr) h
theorem wpl_store_arr (H : ArrAt b f w) (hx : a.eval x = .pointer (some ⟨b, 0, none⟩)) (hy : a.eval y = .agg (arr g)) (h : wpList Tryz.prog ops Q rest (a.put dst undef) (w.setRow b (arr g))) :
    wpList Tryz.prog ops Q ({ dst := dst, op := .store 22 x y, type := ty, pos := pos, after := after, guard := none } :: rest) a w :=
  wpList_store_row rfl 22 x y rfl b (arr g) hx hy 22 _ H (by rw [arr_size]; exact info_arr) (by rw [arr_size, arr_size]) (arr_one _) h
end
theorem and_mask_fin : ∀ (a : Fin 256) (m : Fin 9), a.val &&& (255 - (2 ^ m.val - 1)) = a.val - a.val % 2 ^ m.val := by decide +kernel
theorem and_mask (a m : Nat) (ha : a < 256) (hm : m ≤ 8) : bits .andNot .u8 (a : Int) ((2 ^ m - 1 : Nat) : Int) = ((a - a % 2 ^ m : Nat) : Int) := by
  rw [u8_andNot_nat a _ ha (by have : 2 ^ m ≤ 2 ^ 8 := Nat.pow_le_pow_right (by omega) hm; omega)]
  have := and_mask_fin ⟨a, ha⟩ ⟨m, by omega⟩
  simp only at this
  rw [this]
theorem shr_255 : ∀ l : Nat, l ≤ 8 → (255 : Int) / 2 ^ l = ((2 ^ (8 - l) - 1 : Nat) : Int)
  | 0, _ | 1, _ | 2, _ | 3, _ | 4, _ | 5, _ | 6, _ | 7, _ | 8, _ => rfl
  | l + 9, h => by omega
/-- An address without what is behind so many bits. -/
def maskF (f : Nat → Nat) (bits : Int) (i : Nat) : Nat := maskB (f i) (bits - 8 * i)
theorem maskF_step (f : Nat → Nat) (bits : Int) (k : Nat) : (fun j => if j = k then maskF f bits k else if j < k then maskF f bits j else 0) = fun j => if j < k + 1 then maskF f bits j else 0 := by
  funext j
  by_cases e : j = k
  · subst e; simp
  · rw [if_neg e]
    by_cases h : j < k
    · rw [if_pos h, if_pos (by omega)]
    · rw [if_neg h, if_neg (by omega)]
theorem maskF_stay (f : Nat → Nat) (bits : Int) (k : Nat) (h : maskF f bits k = 0) : (fun j => if j < k then maskF f bits j else 0) = fun j => if j < k + 1 then maskF f bits j else 0 := by
  rw [← maskF_step]
  funext j
  by_cases e : j = k
  · subst e; simp [h]
  · rw [if_neg e]
theorem maskF_end (f : Nat → Nat) (bits : Int) : arr (fun j => if j < 16 then maskF f bits j else 0) = arr (maskF f bits) := arr_congr fun i hi => by rw [if_pos hi]

set_option maxHeartbeats 2000000 in
set_option maxRecDepth 100000 in
theorem mask_any (f : Nat → Nat) (hf : ∀ i, i < 16 → f i < 256) (n : Int) (w : World) (h0 : 0 ≤ n) (h1 : n ≤ 128) :
    Calls Tryz.prog 115 #[.agg (arr f), .int .i64 n] w fun e w' => e = .returned (.agg (arr (maskF f n))) ∧ Hid (Below w.heap.size w w') := by
  have HF := Lib.hid hf
  clear hf
  have HB0 : Hid (Below w.heap.size w (((w.alloc (.cells (arr f) 22)).alloc (.cells z16 22)).alloc (.cells z16 22))) := by show Below _ _ _; go_grown
  have HA0 : Hid (ArrAt w.heap.size f (((w.alloc (.cells (arr f) 22)).alloc (.cells z16 22)).alloc (.cells z16 22))) := Row.old (Row.old (Row.new w _ _ rfl) _) _
  have HA1 : Hid (ArrAt (w.heap.size + 1) (fun _ => 0) (((w.alloc (.cells (arr f) 22)).alloc (.cells z16 22)).alloc (.cells z16 22))) := by
    show Row _ _ _ _
    rw [← zero_arr]
    exact Row.old (Row.new _ _ _ (by simp)) _
  have HA2 : Hid (ArrAt (w.heap.size + 2) (fun _ => 0) (((w.alloc (.cells (arr f) 22)).alloc (.cells z16 22)).alloc (.cells z16 22))) := by
    show Row _ _ _ _
    rw [← zero_arr]
    exact Row.new _ _ _ (by simp)
  go_enter Tryz.func115, Tryz.ntmps115
  go_wp2_with fail
  change Code.wp _ _ _ _ (((w.alloc (.cells (arr f) 22)).alloc (.cells z16 22)).alloc (.cells z16 22))
  generalize (((w.alloc (.cells (arr f) 22)).alloc (.cells z16 22)).alloc (.cells z16 22)) = w0 at *
  go_loopg [8] 16 (fun g v8 wi => ∃ k : Nat, v8 = .int .i64 k ∧ Hid (k + g = 16) ∧ Hid (ArrAt (w.heap.size + 2) (fun j => if j < k then maskF f n j else 0) wi) ∧ Hid (ArrAt w.heap.size f wi) ∧ Hid (ArrAt (w.heap.size + 1) (fun _ => 0) wi) ∧ Hid (Below w.heap.size w wi))
  case atStart => exact ⟨0, rfl, rfl, by show ArrAt _ _ _; simpa using HA2.out, HA0, HA1, HB0⟩
  case round =>
    obtain ⟨k, rfl, HK, H2, H0, H1, HB⟩ := hrel
    clear HA0 HA1 HA2 HB0
    by_cases hlt : k < 16
    · obtain ⟨g1, rfl⟩ : ∃ g1, gk = g1 + 1 := ⟨gk - 1, by have := HK.out; omega⟩
      have hk3 : decide ((k : Int) < 16) = true := decide_eq_true (by omega)
      have hk4 : decide (k < 16) = true := decide_eq_true hlt
      have k0 : (0 : Int) ≤ (k : Int) := by omega
      have k1 : (k : Int) < 16 := by omega
      have hfk := HF.out k hlt
      have hc := H0.out.cell k hlt
      have hd := H2.out.cell k hlt
      have hfz := H2.out.frozen k
      have HSt := Lib.hid (maskF_step f n k)
      have HSy := Lib.hid (maskF_stay f n k)
      by_cases h8 : 8 ≤ n - 8 * k
      · have e1 : decide (8 ≤ n - 8 * (k : Int)) = true := decide_eq_true h8
        have HM : Hid (maskF f n k = f k) := by show _ = _; unfold maskF maskB; rw [if_pos h8]
        clear h8
        go_wp2_with fail
        go_roundg g1
        case measure => omega
        case rel => exact ⟨k + 1, by go_num, by have := HK.out; show _ = _; omega, by show ArrAt _ _ _; rw [← HSt.out, HM.out]; exact H2.out.set k hlt _, H0.out.far (by omega) _, H1.out.far (by omega) _, HB.out.setCell (by show w.heap.size ≤ w.heap.size + 2; omega) _⟩
      · have e1 : decide (8 ≤ n - 8 * (k : Int)) = false := decide_eq_false h8
        by_cases hp : 0 < n - 8 * k
        · have e2 : decide (0 < n - 8 * (k : Int)) = true := decide_eq_true hp
          obtain ⟨l, hl⟩ : ∃ l : Nat, n - 8 * (k : Int) = l := ⟨(n - 8 * k).toNat, by omega⟩
          have HM : Hid (maskF f n k = f k - f k % 2 ^ (8 - l)) := by show _ = _; unfold maskF maskB; rw [if_neg h8, if_pos hp, hl, Int.toNat_natCast]
          have hAn : bits .andNot .u8 (f k : Int) (255 / 2 ^ l) = ((f k - f k % 2 ^ (8 - l) : Nat) : Int) := by rw [shr_255 l (by omega)]; exact and_mask (f k) (8 - l) hfk (by omega)
          go_wp2_with fail
          go_still_tail 8, (by kernel_rfl)
          change wpList _ _ _ _ _ wr.drew
          have H2d : Hid (ArrAt (w.heap.size + 2) (fun j => if j < k then maskF f n j else 0) wr.drew) := H2.out
          have H0d : Hid (ArrAt w.heap.size f wr.drew) := H0.out
          have H1d : Hid (ArrAt (w.heap.size + 1) (fun _ => 0) wr.drew) := H1.out
          have HBd : Hid (Below w.heap.size w wr.drew) := below_drew HB.out
          go_wp2_with fail
          go_roundg g1
          case measure => omega
          case rel => exact ⟨k + 1, by go_num, by have := HK.out; show _ = _; omega, by show ArrAt _ _ _; rw [← HSt.out, HM.out]; exact H2d.out.set k hlt _, H0d.out.far (by omega) _, H1d.out.far (by omega) _, HBd.out.setCell (by show w.heap.size ≤ w.heap.size + 2; omega) _⟩
        · have e2 : decide (0 < n - 8 * (k : Int)) = false := decide_eq_false hp
          have HM : Hid (maskF f n k = 0) := by show _ = _; unfold maskF maskB; rw [if_neg h8, if_neg hp]
          go_wp2_with fail
          go_roundg g1
          case measure => omega
          case rel => exact ⟨k + 1, by go_num, by have := HK.out; show _ = _; omega, by show ArrAt _ _ _; rw [← HSy.out HM.out]; exact H2.out, H0, H1, HB⟩
    · obtain rfl : k = 16 := by have := HK.out; omega
      have HE := Lib.hid (maskF_end f n)
      have h2 : ArrAt (w.heap.size + 2) (maskF f n) wr := by
        show Row _ _ _ _
        rw [← HE.out]
        exact H2.out
      have H2' := Lib.hid h2
      have HR := Lib.hid (ArrAt.row (g := maskF f n) H1.out)
      clear h2 H2
      go_wp2_with (first | ((with_reducible refine wpl_load_arr H2'.out ?hx ?_); (case hx => rfl)) | ((with_reducible refine wpl_store_arr (g := maskF f n) H1.out ?hx ?hy ?_); (case hx => rfl); (case hy => rfl)))
      (try simp only [Exit.inBlock, Exit.then])
      refine bodyPost_ret (v := .agg (arr (maskF f n))) ?_ rfl ⟨rfl, below_setRow HB.out (by omega)⟩
      exact results_cell_row rfl _ _ _ _ _ _ _ rfl HR.out Tryz.underlying22 rfl (by rw [arr_size]; exact info_arr)
end Go.Proofs.YtangheahliekeaaGreatDoor

