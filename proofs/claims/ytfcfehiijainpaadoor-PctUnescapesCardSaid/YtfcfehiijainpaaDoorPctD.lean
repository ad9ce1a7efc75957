/- pct.Places by its contract (its result). -/
import Derived.Test.YtfcfehiijainpaaDoorPctB
import Derived.Test.YtfcfehiijainpaaDoorPctC
set_option linter.unusedVariables false
set_option linter.unusedSimpArgs false
namespace Go.Proofs.YtfcfehiijainpaaDoor
open Go.RowKit Go.PlainAid Go.Proofs.YtfcfehiijainpaaDoorW.PrintWords

set_option maxHeartbeats 1000000 in
theorem pct_Places_any {E : Nat → Addr} (s : ByteArray) (w : World) (hl : s.size ≤ 1000000) (hs : Sents E w) :
    Calls Tryd.prog 22 #[.string s] w fun e w' => ∃ v, e = .returned v ∧ (Kd.int .i64).R 3 w' w.heap.size (fun _ => True) v (ue s).2.1 ∧ Below w.heap.size w w' := by
  have hst0 : SlSt w.heap.size w.heap.size [] [] (w.alloc (.cells #[.slice none 0 0] 33)) := ⟨rfl, Nat.le_refl _, _, heap_alloc_new w _, Kd.R_nil _ _ _ _ _⟩
  have heach := each_Places (E := E) s (SlSt w.heap.size w.heap.size) (.pointer (some ⟨w.heap.size, 0, none⟩)) w (w.alloc (.cells #[.slice none 0 0] 33)) hl hs ((Below.refl _ w).alloc (Nat.le_refl _) _) hst0 (fun _ _ _ _ h => h) (Places1_any w.heap.size w)
  have HE := Lib.hid heach
  clear heach hst0
  go_enter Tryd.func22, Tryd.ntmps22
  go_wp2_with fail
  refine HE.out.mono ?_
  rintro e w' ⟨v, rfl, hE, hS, hb⟩
  have HS := Lib.hid hS
  have HB := Lib.hid hb
  clear hS hb
  rcases hE with ⟨h0, rfl⟩ | ⟨h1, h2, b, rfl, _⟩
  · obtain ⟨hlen, hB, v, hbk, hR⟩ := HS.out h0
    clear hlen
    have c0 : w'.cell? ⟨w.heap.size, 0, none⟩ = some v := by rw [Lib.cell_of_heap hbk]; rfl
    have HR := Lib.hid hR
    obtain ⟨A1, c1, rfl⟩ := Kd.R_slice hR
    clear hbk h0 hR hB
    go_wp2
    go_ret
    exact ⟨_, rfl, Kd.R_mono HR.out (fun _ _ => trivial), HB.out⟩
  · have hnil : Hid ((ue s).2.1 = []) := (ue_bad s (by omega)).2
    clear h1 h2
    go_wp2
    go_ret
    exact ⟨_, rfl, by rw [hnil.out]; exact Kd.R_nil _ _ _ _ _, HB.out⟩
end Go.Proofs.YtfcfehiijainpaaDoor
