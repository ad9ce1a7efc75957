/- What the claim uses of the text Idx. -/
import Derived.Test.YtpdpgppaoipnlaaDoorUBase
import Derived.Test.YtpdpgppaoipnlaaDoorProg
import Derived.WalkKit
import Derived.Lib.Strings
import Derived.Lib.Slices
import Derived.Lib.Walk
import Derived.Lib.Bytealg
import Derived.Lib.IndexLaws
set_option linter.unusedVariables false
set_option linter.unusedSimpArgs false
namespace Go.Proofs.YtpdpgppaoipnlaaDoor
open Go.RowKit Go.PlainAid

set_option maxHeartbeats 1000000 in
set_option maxRecDepth 100000 in
theorem stringslite_IndexByte (s : ByteArray) (c : Int) (w : World) :
    Calls Tryd.prog 102 #[.string s, .int .u8 c] w fun e w' => e = .returned (.int .i64 (Lib.indexByte s.data.toList c.toNat.toUInt8)) ∧ w' = w := by
  go_enter Tryd.func102, Tryd.ntmps102
  go_wp2
  rw [run_callFunc_extern Tryd.func117 (by kernel_rfl) (by kernel_rfl) (by kernel_rfl) (e := Extern.BytealgIndexByte.indexByte) (by kernel_rfl), Lib.run_indexByteString]
  simp only [Result.andThen]
  rw [Oper.upon_value]
  go_wp2
  go_ret
  exact ⟨rfl, rfl⟩
theorem strings_IndexByte (s : ByteArray) (c : Int) (w : World) :
    Calls Tryd.prog 72 #[.string s, .int .u8 c] w fun e w' => e = .returned (.int .i64 (Lib.indexByte s.data.toList c.toNat.toUInt8)) ∧ w' = w := by
  go_enter Tryd.func72, Tryd.ntmps72
  go_wp2_with (go_at_call 102; refine (stringslite_IndexByte _ _ _).mono ?_; rintro e w' ⟨rfl, rfl⟩)
  go_ret
  exact ⟨rfl, rfl⟩

/-- The place of a byte from a place on; the text's end, if there is none. -/
def nb (s : ByteArray) (c : Int) : Nat → Nat → Nat
  | 0, i => i
  | k + 1, i => if s.size ≤ i then i else if bt s i = c then i else nb s c k (i + 1)
theorem u8_of (c : Int) (h0 : 0 ≤ c) (h1 : c ≤ 255) (b : UInt8) : b = c.toNat.toUInt8 ↔ (b.toNat : Int) = c := by
  constructor
  · intro h; subst h; simp; omega
  · intro h
    apply UInt8.toNat_inj.1
    simp
    omega

end Go.Proofs.YtpdpgppaoipnlaaDoor

