/- What the claim uses of the text G7. -/
import Derived.Test.YtangheahliekeaaGreatDoorVG6
set_option linter.unusedVariables false
set_option linter.unusedSimpArgs false
namespace Go.Proofs.YtangheahliekeaaGreatDoor
open Go.RowKit Go.PlainAid
open Go.Proofs.YtangheahliekeaaGreatDoorW.PrintWords hiding bt
open Go.Proofs.YtangheahliekeaaGreatDoorW.PrintMore

theorem sameF_iff (f g : Nat → Nat) : sameF f g = true ↔ ∀ i : Nat, i < 16 → f i = g i := by
  unfold sameF
  rw [List.all_eq_true]
  constructor
  · intro h i hi
    simpa using h i (by simpa using hi)
  · intro h i hi
    simpa using h i (by simpa using hi)
theorem ipOk_bits (p : PV) (hp : ∀ i, i < 16 → p.addr i < 256) (h0 : 0 ≤ p.bits) (h1 : p.bits ≤ widthV p) : ipOk p = true ↔ ∀ j : Nat, p.bits ≤ j → j < 128 → bitA p.addr j = 0 := by
  rw [← mask_all p.addr hp p.bits]
  unfold ipOk
  rw [decide_eq_true h0, decide_eq_true h1, Bool.true_and, Bool.true_and, sameF_iff]
  exact Iff.rfl
theorem rWidth_lit (p : PV) (w : World) : Calls Tryz.prog 11 #[.agg #[.bool p.six, .int .u8 (p.addr 0 : Nat), .int .u8 (p.addr 1 : Nat), .int .u8 (p.addr 2 : Nat), .int .u8 (p.addr 3 : Nat), .int .u8 (p.addr 4 : Nat), .int .u8 (p.addr 5 : Nat), .int .u8 (p.addr 6 : Nat), .int .u8 (p.addr 7 : Nat), .int .u8 (p.addr 8 : Nat), .int .u8 (p.addr 9 : Nat), .int .u8 (p.addr 10 : Nat), .int .u8 (p.addr 11 : Nat), .int .u8 (p.addr 12 : Nat), .int .u8 (p.addr 13 : Nat), .int .u8 (p.addr 14 : Nat), .int .u8 (p.addr 15 : Nat), .int .i64 p.bits]] w fun e w' => e = .returned (.int .i64 (widthV p)) ∧ Hid (Below w.heap.size w w') := rWidth_any p w
set_option maxHeartbeats 2000000 in
set_option maxRecDepth 100000 in
theorem rCheck_any (p : PV) (hp : ∀ i, i < 16 → p.addr i < 256) (w : World) :
    Calls Tryz.prog 5 #[.agg (preA p)] w fun e w' => ∃ c : Int, e = .returned (.int .i64 c) ∧ Hid (c = 0 ↔ ipOk p = true) ∧ Hid (Below w.heap.size w w') := by
  have H : Hid (PreAt w.heap.size p (w.alloc (.cells (preA p) 24))) := Row.new w _ _ rfl
  have HB : Hid (Below w.heap.size w (w.alloc (.cells (preA p) 24))) := (Below.refl _ _).alloc (Nat.le_refl _) _
  have HP := Lib.hid hp
  clear hp
  have z0 := preA_six p
  have z17 := preA_bits p
  go_enter Tryz.func5, Tryz.ntmps5
  go_wp2_with fail
  clear z0 z17
  generalize w.alloc (.cells (preA p) 24) = w0 at *
  have c17 := H.out.bits
  have c0 := H.out.six
  have HBd : Hid (Below w.heap.size w w0.drew) := below_drew HB.out
  have Hd : Hid (PreAt w.heap.size p w0.drew) := H.out
  by_cases h0 : p.bits < 0
  · have d0 : decide (p.bits < 0) = true := decide_eq_true h0
    have HO : Hid (ipOk p = false) := by show _ = _; unfold ipOk; rw [decide_eq_false (by omega)]; rfl
    clear h0
    go_quiet (fail)
    go_wp2_with fail
    go_ret
    exact ⟨4, rfl, ⟨fun h => by omega, fun h => by rw [HO.out] at h; cases h⟩, pw_below_drewN HB.out _⟩
  · have d0 : decide (p.bits < 0) = false := decide_eq_false h0
    go_region_held3 (fun W => W.cell? ⟨w.heap.size, 0, none⟩ = some (.bool p.six) ∧ W.cell? ⟨w.heap.size, 1, none⟩ = some (.int .u8 (p.addr 0 : Nat)) ∧ W.cell? ⟨w.heap.size, 2, none⟩ = some (.int .u8 (p.addr 1 : Nat)) ∧ W.cell? ⟨w.heap.size, 3, none⟩ = some (.int .u8 (p.addr 2 : Nat)) ∧ W.cell? ⟨w.heap.size, 4, none⟩ = some (.int .u8 (p.addr 3 : Nat)) ∧ W.cell? ⟨w.heap.size, 5, none⟩ = some (.int .u8 (p.addr 4 : Nat)) ∧ W.cell? ⟨w.heap.size, 6, none⟩ = some (.int .u8 (p.addr 5 : Nat)) ∧ W.cell? ⟨w.heap.size, 7, none⟩ = some (.int .u8 (p.addr 6 : Nat)) ∧ W.cell? ⟨w.heap.size, 8, none⟩ = some (.int .u8 (p.addr 7 : Nat)) ∧ W.cell? ⟨w.heap.size, 9, none⟩ = some (.int .u8 (p.addr 8 : Nat)) ∧ W.cell? ⟨w.heap.size, 10, none⟩ = some (.int .u8 (p.addr 9 : Nat)) ∧ W.cell? ⟨w.heap.size, 11, none⟩ = some (.int .u8 (p.addr 10 : Nat)) ∧ W.cell? ⟨w.heap.size, 12, none⟩ = some (.int .u8 (p.addr 11 : Nat)) ∧ W.cell? ⟨w.heap.size, 13, none⟩ = some (.int .u8 (p.addr 12 : Nat)) ∧ W.cell? ⟨w.heap.size, 14, none⟩ = some (.int .u8 (p.addr 13 : Nat)) ∧ W.cell? ⟨w.heap.size, 15, none⟩ = some (.int .u8 (p.addr 14 : Nat)) ∧ W.cell? ⟨w.heap.size, 16, none⟩ = some (.int .u8 (p.addr 15 : Nat)) ∧ W.cell? ⟨w.heap.size, 17, none⟩ = some (.int .i64 p.bits))
      (first | exact Hd.out.cells | exact H9.out.cells)
      (first | (go_simp; go_at_call 11; refine (rWidth_lit p _).mono ?_; rintro e w9 ⟨rfl, h9⟩; have H9 : Hid (PreAt w.heap.size p w9) := Hd.out.below h9.out; have HB9 : Hid (Below w.heap.size w w9) := below_then HBd.out HBd.out.size h9.out; clear h9))
    clear c17 c0
    by_cases hw : widthV p < p.bits
    · have HO : Hid (ipOk p = false) := by show _ = _; unfold ipOk; rw [decide_eq_false (show ¬ p.bits ≤ widthV p by omega)]; simp
      have d1 : decide (widthV p < p.bits) = true := decide_eq_true hw
      go_wp2_with fail
      go_ret
      exact ⟨4, rfl, ⟨(fun h => by omega), (fun h => by rw [HO.out] at h; cases h)⟩, HB9.out⟩
    · have hnw : p.bits ≤ widthV p := by omega
      have d1 : decide (widthV p < p.bits) = false := decide_eq_false hw
      have hw128 : widthV p ≤ 128 := by unfold widthV; split <;> omega
      obtain ⟨m, hm⟩ : ∃ m : Nat, p.bits = m := ⟨p.bits.toNat, by omega⟩
      have HK := Lib.hid (ipOk_bits p HP.out (by omega) hnw)
      rw [hm] at HK
      have HM := Lib.hid (fun W => behind_any p.addr HP.out m (by omega) W)
      have c17 := H9.out.bits
      rw [hm] at c17
      have HME := Lib.hid hm
      go_wp2_with (first | ((with_reducible refine wpl_load_addr H9.out ?hx ?_); (case hx => rfl)))
      refine (HM.out _).mono ?_
      rintro e w12 ⟨z, rfl, hz, h12⟩
      have HB12 : Hid (Below w.heap.size w w12) := below_then HB9.out HB9.out.size h12.out
      have HZ : Hid (z = false ↔ ipOk p = true) := by
        refine hz.out.trans (Iff.trans ?_ HK.out.symm)
        exact ⟨(fun h j h1 h2 => h j (by omega) h2), (fun h j h1 h2 => h j (by omega) h2)⟩
      clear h12 hz HK HM c17 hm hw hnw h0 d0 d1 HME
      cases z with
      | true =>
        go_wp2_with fail
        go_ret
        exact ⟨5, rfl, ⟨(fun h => by omega), (fun h => by have := HZ.out.2 h; cases this)⟩, HB12.out⟩
      | false =>
        go_wp2_with fail
        go_ret
        exact ⟨0, rfl, ⟨(fun _ => HZ.out.1 (by first | rfl | trivial)), (fun _ => rfl)⟩, HB12.out⟩
end Go.Proofs.YtangheahliekeaaGreatDoor

