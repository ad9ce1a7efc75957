/- What the claim uses of the text G5. -/
import Derived.Test.YtangheahliekeaaGreatDoorVG4
set_option linter.unusedVariables false
set_option linter.unusedSimpArgs false
namespace Go.Proofs.YtangheahliekeaaGreatDoor
open Go.RowKit Go.PlainAid
open Go.Proofs.YtangheahliekeaaGreatDoorW.PrintWords hiding bt
open Go.Proofs.YtangheahliekeaaGreatDoorW.PrintMore

set_option maxHeartbeats 2000000 in
set_option maxRecDepth 100000 in
theorem ip_Check_any {E : Nat → Addr} (p : PV) (hp : ∀ i, i < 16 → p.addr i < 256) (w : World) (hs : Ges E w) :
    Calls Tryz.prog 83 #[.agg (preA p)] w (NilOr (ipOk p) w) := by
  have H : Hid (PreAt w.heap.size p (w.alloc (.cells (preA p) 24))) := Row.new w _ _ rfl
  have HB : Hid (Below w.heap.size w (w.alloc (.cells (preA p) 24))) := (Below.refl _ _).alloc (Nat.le_refl _) _
  have HS := Lib.hid (hs.below HB.out)
  have HP := Lib.hid hp
  clear hs hp
  have z0 := preA_six p
  have z17 := preA_bits p
  go_enter Tryz.func83, Tryz.ntmps83
  go_wp2_with fail
  clear z0 z17
  generalize w.alloc (.cells (preA p) 24) = w0 at *
  have c17 := H.out.bits
  have c0 := H.out.six
  have g4 := HS.out.c4
  have g5 := HS.out.c5
  have HBd : Hid (Below w.heap.size w w0.drew) := below_drew HB.out
  have Hd : Hid (PreAt w.heap.size p w0.drew) := H.out
  by_cases h0 : p.bits < 0
  · have d0 : decide (p.bits < 0) = true := decide_eq_true h0
    have HO : Hid (ipOk p = false) := by show _ = _; unfold ipOk; rw [decide_eq_false (by omega)]; rfl
    clear h0
    go_quiet (fail)
    go_wp2_with fail
    refine (ip_fault_any (E 4) _).mono ?_
    rintro e w2 ⟨⟨q, rfl⟩, h2⟩
    have HB2 := Lib.hid (below_then (pw_below_drewN HB.out _) (pw_below_drewN HB.out _).size h2.out)
    go_wp2_with fail
    go_ret
    exact NilOr.bad HO.out HB2.out
  · have d0 : decide (p.bits < 0) = false := decide_eq_false h0
    have HBs : Hid (Below w0.heap.size w0 w0.drew) := below_drew (Below.refl _ _)
    go_region_held3 (fun W => W.cell? ⟨w.heap.size, 0, none⟩ = some (.bool p.six) ∧ W.cell? ⟨w.heap.size, 1, none⟩ = some (.int .u8 (p.addr 0 : Nat)) ∧ W.cell? ⟨w.heap.size, 2, none⟩ = some (.int .u8 (p.addr 1 : Nat)) ∧ W.cell? ⟨w.heap.size, 3, none⟩ = some (.int .u8 (p.addr 2 : Nat)) ∧ W.cell? ⟨w.heap.size, 4, none⟩ = some (.int .u8 (p.addr 3 : Nat)) ∧ W.cell? ⟨w.heap.size, 5, none⟩ = some (.int .u8 (p.addr 4 : Nat)) ∧ W.cell? ⟨w.heap.size, 6, none⟩ = some (.int .u8 (p.addr 5 : Nat)) ∧ W.cell? ⟨w.heap.size, 7, none⟩ = some (.int .u8 (p.addr 6 : Nat)) ∧ W.cell? ⟨w.heap.size, 8, none⟩ = some (.int .u8 (p.addr 7 : Nat)) ∧ W.cell? ⟨w.heap.size, 9, none⟩ = some (.int .u8 (p.addr 8 : Nat)) ∧ W.cell? ⟨w.heap.size, 10, none⟩ = some (.int .u8 (p.addr 9 : Nat)) ∧ W.cell? ⟨w.heap.size, 11, none⟩ = some (.int .u8 (p.addr 10 : Nat)) ∧ W.cell? ⟨w.heap.size, 12, none⟩ = some (.int .u8 (p.addr 11 : Nat)) ∧ W.cell? ⟨w.heap.size, 13, none⟩ = some (.int .u8 (p.addr 12 : Nat)) ∧ W.cell? ⟨w.heap.size, 14, none⟩ = some (.int .u8 (p.addr 13 : Nat)) ∧ W.cell? ⟨w.heap.size, 15, none⟩ = some (.int .u8 (p.addr 14 : Nat)) ∧ W.cell? ⟨w.heap.size, 16, none⟩ = some (.int .u8 (p.addr 15 : Nat)) ∧ W.cell? ⟨w.heap.size, 17, none⟩ = some (.int .i64 p.bits))
      (first | exact Hd.out.cells | exact H9.out.cells)
      (first | (go_simp; go_at_call 13; refine (Width_lit p _).mono ?_; rintro e w9 ⟨rfl, h9⟩; have H9 : Hid (PreAt w.heap.size p w9) := Hd.out.below h9.out; have HB9 : Hid (Below w.heap.size w w9) := below_then HBd.out HBd.out.size h9.out; have HS9 : Hid (Ges E w9) := HS.out.below (w := w0) (below_then HBs.out HBs.out.size h9.out); clear h9))
    clear c17 c0 g4 g5
    have g4 := HS9.out.c4
    have g5 := HS9.out.c5
    by_cases hw : widthV p < p.bits
    · have d1 : decide (widthV p < p.bits) = true := decide_eq_true hw
      have HO : Hid (ipOk p = false) := by show _ = _; unfold ipOk; rw [decide_eq_false (show ¬ p.bits ≤ widthV p by omega)]; simp
      go_wp2_with fail
      refine (ip_fault_any (E 4) _).mono ?_
      rintro e w2 ⟨⟨q, rfl⟩, h2⟩
      have HB2 := Lib.hid (below_then HB9.out HB9.out.size h2.out)
      go_wp2_with fail
      go_ret
      exact NilOr.bad HO.out HB2.out
    · have d1 : decide (widthV p < p.bits) = false := decide_eq_false hw
      have HO : Hid (ipOk p = sameF (maskF p.addr p.bits) p.addr) := by show _ = _; unfold ipOk; rw [decide_eq_true (show 0 ≤ p.bits by omega), decide_eq_true (show p.bits ≤ widthV p by omega)]; simp
      have HN0 : Hid (0 ≤ p.bits ∧ p.bits ≤ 128) := by
        have : widthV p ≤ 128 := by unfold widthV; split <;> omega
        show _ ∧ _; omega
      have c17 := H9.out.bits
      have hnw : p.bits ≤ widthV p := by omega
      go_wp2_with fail
      have HBd9 : Hid (Below w9.heap.size w9 w9.drew) := below_drew (Below.refl _ _)
      have hu16 := Tryz.underlying22
      have hi16 : (Tryz.prog.info? 22).map (·.size) = some ((List.range 16).map fun i => Value.int .u8 (p.addr i)).length := by simpa using info_arr
      have HM := Lib.hid (fun W => mask_any p.addr HP.out p.bits W HN0.out.1 HN0.out.2)
      have heq : ∀ W, (Op.equalIn 10000 22 (.agg (arr (maskF p.addr p.bits))) (.agg #[.int .u8 (p.addr 0 : Nat), .int .u8 (p.addr 1 : Nat), .int .u8 (p.addr 2 : Nat), .int .u8 (p.addr 3 : Nat), .int .u8 (p.addr 4 : Nat), .int .u8 (p.addr 5 : Nat), .int .u8 (p.addr 6 : Nat), .int .u8 (p.addr 7 : Nat), .int .u8 (p.addr 8 : Nat), .int .u8 (p.addr 9 : Nat), .int .u8 (p.addr 10 : Nat), .int .u8 (p.addr 11 : Nat), .int .u8 (p.addr 12 : Nat), .int .u8 (p.addr 13 : Nat), .int .u8 (p.addr 14 : Nat), .int .u8 (p.addr 15 : Nat)])).run Tryz.prog W = .ok (sameF (maskF p.addr p.bits) p.addr) W := fun W => run_equalIn_arr 9998 (maskF p.addr p.bits) p.addr W
      clear g4 g5 hw hnw h0 c17 d0 d1 HB HS H Hd HBd HBs
      refine wp_region_noPanic ?_
      refine wp_region_held_drew (S := fun W => W.cell? ⟨w.heap.size, 17, none⟩ = some (.int .i64 p.bits) ∧ W.rangeAt w.heap.size 1 ((List.range 16).map fun i => Value.int .u8 (p.addr i))) (by kernel_rfl) ?_ (fun hHeld => ?_)
      · exact ⟨H9.out.bits, H9.out.range⟩
      refine wpAnyH_take (i := 0) (v := ?_) rfl (by kernel_rfl) (by kernel_rfl) (by kernel_rfl) (fun _ _ _ h => h) (Or.inl ⟨by rfl, ?_⟩) (by assumption) ?_
      rotate_left
      · intro W hSw
        (try dsimp only at hSw)
        go_simp
        (try with_reducible rfl)
      (try simp only [Act.put, List.setIfInBounds_toArray, List.set_cons_zero, List.set_cons_succ])
      refine wpAnyH_take (i := 1) rfl (by kernel_rfl) (by kernel_rfl) (by kernel_rfl) (fun _ _ _ h => h) (yieldsIf_load_mid (by rfl) _ _ rfl w.heap.size 1 rfl ((List.range 16).map fun i => Value.int .u8 (p.addr i)) _ (fun W h => h.2) hu16 rfl hi16) (by assumption) ?_
      (try simp only [Act.put, List.setIfInBounds_toArray, List.set_cons_zero, List.set_cons_succ])
      refine wpAnyH_take (i := 2) (v := ?_) rfl (by kernel_rfl) (by kernel_rfl) (by kernel_rfl) (fun _ _ _ h => h) (Or.inl ⟨by rfl, ?_⟩) (by assumption) ?_
      rotate_left
      · intro W hSw
        (try dsimp only at hSw)
        go_simp
        (try with_reducible rfl)
      (try simp only [Act.put, List.setIfInBounds_toArray, List.set_cons_zero, List.set_cons_succ])
      refine wpAnyH_take (i := 3) (v := ?_) rfl (by kernel_rfl) (by kernel_rfl) (by kernel_rfl) (fun _ _ _ h => h) (Or.inl ⟨by rfl, ?_⟩) (by assumption) ?_
      rotate_left
      · intro W hSw
        (try dsimp only at hSw)
        go_simp
        (try with_reducible rfl)
      (try simp only [Act.put, List.setIfInBounds_toArray, List.set_cons_zero, List.set_cons_succ])
      refine wpAnyH_take (i := 5) (v := ?_) rfl (by kernel_rfl) (by kernel_rfl) (by kernel_rfl) (fun _ _ _ h => h) (Or.inl ⟨by rfl, ?_⟩) (by assumption) ?_
      rotate_left
      · intro W hSw
        (try dsimp only at hSw)
        go_simp
        (try with_reducible rfl)
      (try simp only [Act.put, List.setIfInBounds_toArray, List.set_cons_zero, List.set_cons_succ])
      refine wpAnyH_take (i := 6) rfl (by kernel_rfl) (by kernel_rfl) (by kernel_rfl) (fun _ _ _ h => h) (yieldsIf_load_mid (by rfl) _ _ rfl w.heap.size 1 rfl ((List.range 16).map fun i => Value.int .u8 (p.addr i)) _ (fun W h => h.2) hu16 rfl hi16) (by assumption) ?_
      (try simp only [Act.put, List.setIfInBounds_toArray, List.set_cons_zero, List.set_cons_succ])
      refine wpAnyH_ready (rs := [4]) (by kernel_rfl) (by simp) ?_
      refine AllReadyH.cons (o := _) rfl (fun K hK => ?_) AllReadyH.nil
      go_simp
      go_at_call 115
      refine (HM.out _).mono ?_
      rintro e w12 ⟨rfl, h12⟩
      have H12 : Hid (PreAt w.heap.size p w12) := PreAt.below (w := w9.drew) H9.out h12.out
      have HB12 : Hid (Below w.heap.size w w12) := below_then (below_drew HB9.out) (below_drew HB9.out).size h12.out
      have HS12 : Hid (Ges E w12) := Ges.below (w := w9.drew) (HS9.out.below HBd9.out) h12.out
      clear h12
      dsimp only
      refine hK.out _ _ ⟨H12.out.bits, H12.out.range⟩ (fun hHeld => ?_)
      clear hK K
      (try simp only [Act.put, List.setIfInBounds_toArray, List.set_cons_zero, List.set_cons_succ])
      refine wpAnyH_take (i := 7) (v := ?_) rfl (by kernel_rfl) (by kernel_rfl) (by kernel_rfl) (fun _ _ _ h => h) (Or.inl ⟨by rfl, ?_⟩) (by assumption) ?_
      rotate_left
      · intro W hSw
        (try dsimp only at hSw)
        go_simp
        (try with_reducible rfl)
      (try simp only [Act.put, List.setIfInBounds_toArray, List.set_cons_zero, List.set_cons_succ])
      refine wpAnyH_take (i := 8) (v := ?_) rfl (by kernel_rfl) (by kernel_rfl) (by kernel_rfl) (fun _ _ _ h => h) (Or.inl ⟨by rfl, ?_⟩) (by assumption) ?_
      rotate_left
      · intro W hSw
        (try dsimp only at hSw)
        go_simp
        (try with_reducible rfl)
      (try simp only [Act.put, List.setIfInBounds_toArray, List.set_cons_zero, List.set_cons_succ])
      refine wpAnyH_done (by kernel_rfl) (NoPanic.normal ?_) _
      obtain ⟨z, Hz⟩ : ∃ z, Hid (sameF (maskF p.addr p.bits) p.addr = z) := ⟨_, rfl⟩
      rw [Hz.out] at HO ⊢
      have g5 := HS12.out.c5
      clear heq hHeld
      cases z with
      | true =>
        go_wp2_with fail
        go_ret
        exact NilOr.good HO.out HB12.out
      | false =>
        go_wp2_with fail
        refine (ip_fault_any (E 5) _).mono ?_
        rintro e w2 ⟨⟨q, rfl⟩, h2⟩
        have HB2 := Lib.hid (below_then HB12.out HB12.out.size h2.out)
        go_wp2_with fail
        go_ret
        exact NilOr.bad HO.out HB2.out
end Go.Proofs.YtangheahliekeaaGreatDoor

