/- The small functions of pct; 'each' by its contract, at each of its callbacks. pct.Unescape by its contract. pct.Places by its contract. pct.Places by its contract (its result). -/
import Derived.Test.YtpdpgppaoipnlaaDoorBase
import Derived.Test.YtpdpgppaoipnlaaDoorUtf
import Derived.Lib.Hide
import Derived.Deep.QuietTactic
import Derived.BigQuiet
import Derived.Test.YtpdpgppaoipnlaaDoorBuild
import Derived.Test.YtpdpgppaoipnlaaDoorPAllx0
set_option linter.unusedVariables false
set_option linter.unusedSimpArgs false
namespace Go.Proofs.YtpdpgppaoipnlaaDoor
section
open Go.RowKit Go.PlainAid

theorem below_new {w0 w : World} (hb : Below w0.heap.size w0 w) (o : Obj) : Below w0.heap.size w0 (w.alloc o) := hb.alloc hb.size o

theorem or4_fin : ∀ x y : Fin 16, bits .or .i64 ((x.val : Int) * 16) (y.val : Int) = (x.val : Int) * 16 + (y.val : Int) := by decide +kernel
theorem i64_or4 (x y : Int) (hx0 : 0 ≤ x) (hx1 : x ≤ 15) (hy0 : 0 ≤ y) (hy1 : y ≤ 15) : bits .or .i64 (x * 16) y % 256 = 16 * x + y := by
  have h := or4_fin ⟨x.toNat, by omega⟩ ⟨y.toNat, by omega⟩
  simp only [Int.toNat_of_nonneg hx0, Int.toNat_of_nonneg hy0] at h
  rw [h]; omega
theorem PrintB {w0 w : World} (hb : Below w0.heap.size w0 w) (n : Nat) : Below w0.heap.size w0 (w.drewN n) := ⟨hb.os, hb.tape, hb.output, hb.size, hb.block⟩

def EachIs (E : Nat → Addr) (s : ByteArray) (St : List Int → List Int → World → Prop) (w0 : World) (e : Ending) (w' : World) : Prop :=
  ∃ v, e = .returned v ∧ ErrV E w' v (ue s).2.2.1 (ue s).2.2.2 ∧ ((ue s).2.2.2 = 0 → St (ue s).1 (ue s).2.1 w') ∧ Below w0.heap.size w0 w'

end

section
open Go.RowKit Go.PlainAid

/-- A builder of the call's own (the block b) holds these bytes. -/
def BuildSt (B b : Nat) (bs ps : List Int) (w : World) : Prop := (∀ x ∈ bs, 0 ≤ x ∧ x ≤ 255) ∧ Lib.IsBuilder 92 5 B b (bs.map (Value.int .u8)) w

theorem byteCells_nums (bs : List Int) (h : ∀ x ∈ bs, 0 ≤ x ∧ x ≤ 255) : Lib.byteCells (bs.map fun n => UInt8.ofNat n.toNat) = bs.map (Value.int .u8) := by
  unfold Lib.byteCells
  rw [List.map_map]
  apply List.map_congr_left
  intro x hx
  have := h x hx
  simp
  omega

theorem build_text {b : Nat} {bs : List Int} {w0 w : World} (h : ∀ x ∈ bs, 0 ≤ x ∧ x ≤ 255) (hb : Lib.IsBuilder 92 5 w0.heap.size b (bs.map (Value.int .u8)) w) (hw : Below w0.heap.size w0 w) :
    Calls Tryd.prog 67 #[.pointer (some ⟨b, 0, none⟩)] w fun e w' => e = .returned (.string (strOfNums bs)) ∧ Below w0.heap.size w0 w' := by
  refine (Builder_String_any w0.heap.size b (bs.map fun n => UInt8.ofNat n.toNat) w (by rw [byteCells_nums bs h]; exact hb) hw.size).mono ?_
  rintro e w' ⟨rfl, h2⟩
  exact ⟨rfl, hw.trans h2⟩

end

section
open Go.RowKit Go.PlainAid

open Go.Proofs.YtpdpgppaoipnlaaDoorW.PrintWords
end

section
open Go.RowKit Go.PlainAid Go.Proofs.YtpdpgppaoipnlaaDoorW.PrintWords

end
end Go.Proofs.YtpdpgppaoipnlaaDoor
