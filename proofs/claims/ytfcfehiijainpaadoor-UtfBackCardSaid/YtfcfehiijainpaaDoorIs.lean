/- The statements' own 'Is': an error that is a fault at a place around a sentinel is told so. -/
import Derived.Test.YtfcfehiijainpaaDoorErrAs
namespace Go.Proofs.YtfcfehiijainpaaDoor
open Go.RowKit Go.Extern.Stop Go.Stop Go.Extern

/-- An error value: none (code 0), or a fault at a place around a sentinel. -/
def ErrV (E : Nat → Addr) (w : World) (v : Value) (at_ : Int) (code : Int) : Prop :=
  (code = 0 ∧ v = .nilIface) ∨ (1 ≤ code ∧ code ≤ 18 ∧ ∃ b, v = .iface 69 (.pointer (some ⟨b, 0, none⟩)) ∧ w.cell? ⟨b, 0, none⟩ = some (.int .i64 at_) ∧ w.cell? ⟨b, 1, none⟩ = some (.iface 127 (.pointer (some (E code.toNat)))))

theorem ErrV.below {E : Nat → Addr} {w w' : World} {v : Value} {at_ code : Int} (h : ErrV E w v at_ code) (hb : Below w.heap.size w w') : ErrV E w' v at_ code := by
  rcases h with h | ⟨h1, h2, b, h3, h4, h5⟩
  · exact .inl h
  · exact .inr ⟨h1, h2, b, h3, cell_below hb h4, cell_below hb h5⟩

theorem is_none (v : Value) (at_ : Int) (w : World) (hv : v = .nilIface) :
    Calls Tryd.prog 17 #[v, .int .i64 at_, .int .i64 0] w fun e w' => e = .returned (.bool true) ∧ w' = w := by
  subst hv
  go_enter Tryd.func17, Tryd.ntmps17
  go_wp2
  go_ret
  exact ⟨rfl, rfl⟩

set_option maxHeartbeats 2000000 in
theorem is_some {E : Nat → Addr} (b : Nat) (at_ code : Int) (w : World) (hs : Sents E w) (h1 : 1 ≤ code) (h2 : code ≤ 18)
    (h4 : w.cell? ⟨b, 0, none⟩ = some (.int .i64 at_)) (h5 : w.cell? ⟨b, 1, none⟩ = some (.iface 127 (.pointer (some (E code.toNat))))) :
    Calls Tryd.prog 17 #[.iface 69 (.pointer (some ⟨b, 0, none⟩)), .int .i64 at_, .int .i64 code] w fun e w' => e = .returned (.bool true) ∧ Below w.heap.size w w' := by
  have hc0 : (code == 0) = false := by rw [beq_eq_false_iff_ne]; omega
  have hbl : b < w.heap.size := World.block_lt_of_cell? w _ h4
  have hs1 : Sents E (w.alloc (.cells #[.pointer none] 69)) := hs.below (by go_grown)
  go_enter Tryd.func17, Tryd.ntmps17
  go_wp2_with fail
  refine (as_hit _ _ (.pointer none) _ hs1 (by simp) (by simp)).mono ?_
  rintro e w' ⟨rfl, w1, hb, rfl⟩
  have hb0 : Below w.heap.size w w1 := (show Below w.heap.size w (w.alloc (.cells #[.pointer none] 69)) by go_grown).trans (hb.mono (by simp))
  have hsz : w.heap.size < w1.heap.size := by have := hb.size; simp at this; omega
  have g4 : w1.cell? ⟨b, 0, none⟩ = some (.int .i64 at_) := cell_below hb0 h4
  have g5 : w1.cell? ⟨b, 1, none⟩ = some (.iface 127 (.pointer (some (E code.toNat)))) := cell_below hb0 h5
  have g0 : w1.cell? ⟨w.heap.size, 0, none⟩ = some (.pointer none) := cell_below hb (by simp)
  have hs2 : Sents E (w1.setCell ⟨w.heap.size, 0, none⟩ (.pointer (some ⟨b, 0, none⟩))) := hs.below (by go_grown)
  go_wp2_with fail
  refine (Named_any E code _ h1 h2 hs2).mono ?_
  rintro e w' ⟨rfl, rfl⟩
  go_wp2_with fail
  refine (is_fault_same b (E code.toNat) _ (by go_cell)).mono ?_
  rintro e w' ⟨rfl, rfl⟩
  go_wp2_with fail
  go_ret
  exact ⟨rfl, hb0.setCell (by simp) _⟩
end Go.Proofs.YtfcfehiijainpaaDoor
