/- pct.Canon, moved, Split and Text by their contracts. -/
import Derived.Test.YtkaepipnbgdoeaaDoorPctE
import Derived.Test.YtkaepipnbgdoeaaDoorIdx
import Derived.Test.YtkaepipnbgdoeaaDoorPctF
import Derived.Deep.RegionWith
import Derived.Deep.QuietTactic
import Derived.BigQuiet
set_option linter.unusedVariables false
set_option linter.unusedSimpArgs false
namespace Go.Proofs.YtkaepipnbgdoeaaDoor
section
open Go.RowKit Go.Proofs.YtkaepipnbgdoeaaDoorW.PrintWords Go.Proofs.YtkaepipnbgdoeaaDoorW.PrintMore

set_option maxHeartbeats 600000 in
theorem pct_Canon_ok {E : Nat → Addr} (s keep : ByteArray) (bs ps : List Int) (at_ : Int) (w : World) (hl : s.size ≤ 100000) (hk : keep.size ≤ 100000) (hs : Sents E w) (hu : ue s = (bs, ps, at_, 0)) (hr : ∀ x ∈ bs, 0 ≤ x ∧ x ≤ 255) (hbl : bs.length ≤ 100000) :
    Calls Tryd.prog 15 #[.string s, .string keep] w fun e w' => e = .returned (.tuple #[.string (strOfNums (escL (stay keep) bs)), .nilIface]) ∧ Below w.heap.size w w' := by
  have HU := Lib.hid hu
  have HESC : Hid (ints (strOfNums bs) = bs) := ints_nums bs hr
  have hsz : (strOfNums bs).size ≤ 100000 := by rw [strOfNums_size]; exact hbl
  clear hu hr
  go_enter Tryd.func15, Tryd.ntmps15
  go_wp2_with fail
  refine (pct_Unescape_at s bs ps at_ 0 _ (by omega) hs HU.out).mono ?_
  rintro e w1 ⟨v, rfl, hE, hb⟩
  obtain rfl : v = .nilIface := by
    rcases hE.out with ⟨_, h⟩ | ⟨h, _⟩
    · exact h
    · omega
  clear hE
  go_wp2_with fail
  refine (pct_Escape_any (strOfNums bs) keep _ hsz hk).mono ?_
  rintro e w2 ⟨rfl, hb2⟩
  rw [HESC.out]
  go_wp2
  go_ret2
  exact ⟨rfl, below_step hb hb2⟩

set_option maxHeartbeats 600000 in
theorem pct_Canon_bad {E : Nat → Addr} (s keep : ByteArray) (bs ps : List Int) (at_ n : Int) (w : World) (hl : s.size ≤ 100000) (hs : Sents E w) (hu : ue s = (bs, ps, at_, n)) (hn : n ≠ 0) :
    Calls Tryd.prog 15 #[.string s, .string keep] w fun e w' => ∃ p, e = .returned (.tuple #[.string ⟨#[]⟩, .iface 65 (.pointer (some p))]) ∧ Hid (ErrV E w' (.iface 65 (.pointer (some p))) at_ n) ∧ Below w.heap.size w w' := by
  have HU := Lib.hid hu
  have HN := Lib.hid hn
  clear hu hn
  go_enter Tryd.func15, Tryd.ntmps15
  go_wp2_with fail
  refine (pct_Unescape_at s bs ps at_ n _ (by omega) hs HU.out).mono ?_
  rintro e w1 ⟨v, rfl, hE, hb⟩
  obtain ⟨p, rfl⟩ : ∃ p, v = .iface 65 (.pointer (some p)) := by
    rcases hE.out with ⟨h, _⟩ | ⟨_, _, b, h, _⟩
    · exact absurd h HN.out
    · exact ⟨_, h⟩
  go_wp2
  go_ret2
  exact ⟨p, rfl, hE, hb⟩

set_option maxHeartbeats 600000 in
theorem Split1_any (b0 : Nat) (from_ at_ : Int) (w : World) (hc : w.cell? ⟨b0, 0, none⟩ = some (.int .i64 from_)) (h0 : 0 ≤ from_) (h1 : from_ ≤ 1000000) (h2 : 0 ≤ at_) (h3 : at_ ≤ 1000000) :
    Calls Tryd.prog 37 #[.int .i64 at_, .pointer (some ⟨b0, 0, none⟩)] w fun e w' => e = .returned (.int .i64 (from_ + at_)) ∧ w' = w := by
  go_enter Tryd.func37, Tryd.ntmps37
  go_wp2
  go_ret
  exact ⟨rfl, rfl⟩

set_option maxHeartbeats 600000 in
theorem Text1_any (b0 : Nat) (A : Option Addr) (c : Nat) (ps : List Int) (i : Nat) (w : World) (hc : w.cell? ⟨b0, 0, none⟩ = some (.slice A ps.length c)) (hC : (Kd.int .i64).C w A ps.length ps) (h0 : i < ps.length) (x : Int) (hx : Hid (ps.getD i 0 = x)) :
    Calls Tryd.prog 54 #[.int .i64 i, .pointer (some ⟨b0, 0, none⟩)] w fun e w' => e = .returned (.int .i64 x) ∧ w' = w := by
  obtain ⟨ad, rfl, h1⟩ := C_int_get hC i h0
  rw [hx.out] at h1
  have hl : ps.length ≤ 9223372036854775807 := hC.2.1
  clear hC
  go_enter Tryd.func54, Tryd.ntmps54
  go_wp2
  go_ret
  exact ⟨rfl, rfl⟩

set_option maxHeartbeats 1000000 in
theorem moved_Split {E : Nat → Addr} (b b0 : Nat) (from_ at_ n : Int) (w : World) (hs : Sents E w) (hn1 : 1 ≤ n) (hn2 : n ≤ 18) (h4 : w.cell? ⟨b, 0, none⟩ = some (.int .i64 at_)) (h5 : w.cell? ⟨b, 1, none⟩ = some (.iface 126 (.pointer (some (E n.toNat)))))
    (hc : w.cell? ⟨b0, 0, none⟩ = some (.int .i64 from_)) (h0 : 0 ≤ from_) (h1 : from_ ≤ 1000000) (h2 : 0 ≤ at_) (h3 : at_ ≤ 1000000) :
    Calls Tryd.prog 36 #[.iface 65 (.pointer (some ⟨b, 0, none⟩)), .func (.func 37) #[] #[.pointer (some ⟨b0, 0, none⟩)]] w fun e w' => ∃ p, e = .returned (.iface 65 (.pointer (some p))) ∧ Hid (ErrV E w' (.iface 65 (.pointer (some p))) (from_ + at_) n) ∧ Below w.heap.size w w' := by
  have hs1 : Sents E (w.alloc (.cells #[.pointer none] 65)) := hs.below (by go_grown)
  have hbl : b < w.heap.size := World.block_lt_of_cell? w _ h4
  have hbl0 : b0 < w.heap.size := World.block_lt_of_cell? w _ hc
  go_enter Tryd.func36, Tryd.ntmps36
  go_wp2_with fail
  refine (as_hit _ _ (.pointer none) _ hs1 (by simp) (by simp)).mono ?_
  rintro e w' ⟨rfl, w1, hb, rfl⟩
  have hb0 : Below w.heap.size w w1 := (show Below w.heap.size w (w.alloc (.cells #[.pointer none] 65)) by go_grown).trans (hb.mono (by simp))
  have hsz : w.heap.size < w1.heap.size := by have := hb.size; simp at this; omega
  have HB0 := Lib.hid hb0
  have g4 : (w1.setCell ⟨w.heap.size, 0, none⟩ (.pointer (some ⟨b, 0, none⟩))).cell? ⟨b, 0, none⟩ = some (.int .i64 at_) := by have := cell_below hb0 h4; go_cell
  have g5 : (w1.setCell ⟨w.heap.size, 0, none⟩ (.pointer (some ⟨b, 0, none⟩))).cell? ⟨b, 1, none⟩ = some (.iface 126 (.pointer (some (E n.toNat)))) := by have := cell_below hb0 h5; go_cell
  have g6 : (w1.setCell ⟨w.heap.size, 0, none⟩ (.pointer (some ⟨b, 0, none⟩))).cell? ⟨b0, 0, none⟩ = some (.int .i64 from_) := by have := cell_below hb0 hc; go_cell
  have g7 : (w1.setCell ⟨w.heap.size, 0, none⟩ (.pointer (some ⟨b, 0, none⟩))).cell? ⟨w.heap.size, 0, none⟩ = some (.pointer (some ⟨b, 0, none⟩)) := by
    have g0 : w1.cell? ⟨w.heap.size, 0, none⟩ = some (.pointer none) := cell_below hb (by simp)
    go_cell
  obtain ⟨w2, HW2⟩ : ∃ w2, Hid (w1.setCell ⟨w.heap.size, 0, none⟩ (.pointer (some ⟨b, 0, none⟩)) = w2) := ⟨_, rfl⟩
  have HB2 : Hid (Below w.heap.size w w2) := by rw [← HW2.out]; exact hb0.setCell (Nat.le_refl _) _
  rw [HW2.out] at g4 g5 g6 g7 ⊢
  clear hb hb0 HW2 HB0 hs1 h4 h5 hc hsz
  have hE : Hid (∀ W : World, ErrV E (W.alloc (.cells #[.int .i64 (from_ + at_), .iface 126 (.pointer (some (E n.toNat)))] 69)) (.iface 65 (.pointer (some ⟨W.heap.size, 0, none⟩))) (from_ + at_) n) := fun W => ErrV.new (by omega) (by omega) (by omega)
  go_wp2_with fail
  go_region_with (first | (go_at_call 37; refine (Split1_any b0 from_ at_ _ (by exact g6) h0 h1 h2 h3).mono ?_; rintro e w' ⟨rfl, rfl⟩) | (go_at_call 34; refine (pct_fault_any _ _ _).mono ?_; rintro e w' ⟨rfl, rfl⟩))
  all_goals
    go_wp2
    go_ret
    exact ⟨_, rfl, hE.out _, (below_new HB2.out _).drew⟩
set_option maxHeartbeats 1000000 in
theorem moved_Text {E : Nat → Addr} (b b0 : Nat) (i : Nat) (A : Option Addr) (c : Nat) (ps : List Int) (n : Int) (w : World) (hs : Sents E w) (hn1 : 1 ≤ n) (hn2 : n ≤ 18) (h4 : w.cell? ⟨b, 0, none⟩ = some (.int .i64 i)) (h5 : w.cell? ⟨b, 1, none⟩ = some (.iface 126 (.pointer (some (E n.toNat)))))
    (hc : w.cell? ⟨b0, 0, none⟩ = some (.slice A ps.length c)) (hC : (Kd.int .i64).C w A ps.length ps) (h0 : i < ps.length) (x : Int) (hx : Hid (ps.getD i 0 = x)) :
    Calls Tryd.prog 36 #[.iface 65 (.pointer (some ⟨b, 0, none⟩)), .func (.func 54) #[] #[.pointer (some ⟨b0, 0, none⟩)]] w fun e w' => ∃ p, e = .returned (.iface 65 (.pointer (some p))) ∧ Hid (ErrV E w' (.iface 65 (.pointer (some p))) x n) ∧ Below w.heap.size w w' := by
  have hs1 : Sents E (w.alloc (.cells #[.pointer none] 65)) := hs.below (by go_grown)
  have hbl : b < w.heap.size := World.block_lt_of_cell? w _ h4
  have hbl0 : b0 < w.heap.size := World.block_lt_of_cell? w _ hc
  go_enter Tryd.func36, Tryd.ntmps36
  go_wp2_with fail
  refine (as_hit _ _ (.pointer none) _ hs1 (by simp) (by simp)).mono ?_
  rintro e w' ⟨rfl, w1, hb, rfl⟩
  have hb0 : Below w.heap.size w w1 := (show Below w.heap.size w (w.alloc (.cells #[.pointer none] 65)) by go_grown).trans (hb.mono (by simp))
  have hsz : w.heap.size < w1.heap.size := by have := hb.size; simp at this; omega
  have HB0 := Lib.hid hb0
  have g4 : (w1.setCell ⟨w.heap.size, 0, none⟩ (.pointer (some ⟨b, 0, none⟩))).cell? ⟨b, 0, none⟩ = some (.int .i64 i) := by have := cell_below hb0 h4; go_cell
  have g5 : (w1.setCell ⟨w.heap.size, 0, none⟩ (.pointer (some ⟨b, 0, none⟩))).cell? ⟨b, 1, none⟩ = some (.iface 126 (.pointer (some (E n.toNat)))) := by have := cell_below hb0 h5; go_cell
  have g6 : (w1.setCell ⟨w.heap.size, 0, none⟩ (.pointer (some ⟨b, 0, none⟩))).cell? ⟨b0, 0, none⟩ = some (.slice A ps.length c) := by have := cell_below hb0 hc; go_cell
  have g7 : (w1.setCell ⟨w.heap.size, 0, none⟩ (.pointer (some ⟨b, 0, none⟩))).cell? ⟨w.heap.size, 0, none⟩ = some (.pointer (some ⟨b, 0, none⟩)) := by
    have g0 : w1.cell? ⟨w.heap.size, 0, none⟩ = some (.pointer none) := cell_below hb (by simp)
    go_cell
  obtain ⟨w2, HW2⟩ : ∃ w2, Hid (w1.setCell ⟨w.heap.size, 0, none⟩ (.pointer (some ⟨b, 0, none⟩)) = w2) := ⟨_, rfl⟩
  have HB2 : Hid (Below w.heap.size w w2) := by rw [← HW2.out]; exact hb0.setCell (Nat.le_refl _) _
  have HC2 : Hid ((Kd.int .i64).C w2 A ps.length ps) := Kd.C_below hC HB2.out
  rw [HW2.out] at g4 g5 g6 g7 ⊢
  clear hb hb0 HW2 HB0 hs1 h4 h5 hc hsz hC
  have hE : Hid (∀ W : World, ErrV E (W.alloc (.cells #[.int .i64 x, .iface 126 (.pointer (some (E n.toNat)))] 69)) (.iface 65 (.pointer (some ⟨W.heap.size, 0, none⟩))) x n) := fun W => ErrV.new (by omega) (by omega) (by omega)
  go_wp2_with fail
  go_region_with (first | (go_at_call 54; refine (Text1_any b0 A c ps i _ (by exact g6) (by exact HC2.out) h0 x hx).mono ?_; rintro e w' ⟨rfl, rfl⟩) | (go_at_call 34; refine (pct_fault_any _ _ _).mono ?_; rintro e w' ⟨rfl, rfl⟩))
  all_goals
    go_wp2
    go_ret
    exact ⟨_, rfl, hE.out _, (below_new HB2.out _).drew⟩
end
end Go.Proofs.YtkaepipnbgdoeaaDoor
