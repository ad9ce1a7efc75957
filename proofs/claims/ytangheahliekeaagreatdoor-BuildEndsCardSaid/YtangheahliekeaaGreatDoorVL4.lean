/- What the claim uses of the text L4. -/
import Derived.Test.YtangheahliekeaaGreatDoorVL3
set_option linter.unusedVariables false
set_option linter.unusedSimpArgs false
namespace Go.Proofs.YtangheahliekeaaGreatDoor
open Go.RowKit Go.PlainAid
open Go.Proofs.YtangheahliekeaaGreatDoorW.PrintWords hiding bt
open Go.Proofs.YtangheahliekeaaGreatDoorW.PrintMore

set_option maxHeartbeats 1000000 in
theorem text_any {n lim lo m b : Nat} {base : ByteArray} {xs : List (ByteArray × JV)} {v : Value} (nm s : ByteArray) (w : World) (hB : Bu (n + 1) lim lo m b base xs v w) (hl : xs.length ≤ 1000) :
    Calls Tryz.prog 25 #[.pointer (some ⟨b, 0, none⟩), .string nm, .string s] w fun e w' => e = .returned (.pointer (some ⟨b, 0, none⟩)) ∧ ∃ v', Hid (Bu (n + 1) lim lo w'.heap.size b base (xs ++ [(nm, ⟨4, s, [], []⟩)]) v' w') ∧ Hid (Below lim w w') ∧ Hid (Fr b v w w') := by
  have HB := Lib.hid hB
  have HL := Lib.hid hl
  have HLM : Hid (lim ≤ w.heap.size) := Nat.le_trans hB.low (Nat.le_of_lt hB.lt)
  clear hB hl
  go_enter Tryz.func25, Tryz.ntmps25
  go_wp2_with fail
  refine (Str_val s _).mono ?_
  rintro e w1 ⟨rfl, hb1⟩
  have HB1 := Lib.hid (HB.out.below hb1.out)
  have HW1 := Lib.hid (below_less hb1.out HLM.out)
  have hb1 := hb1
  clear HB
  go_wp2_with fail
  refine (put_any nm ⟨4, s, [], []⟩ [.int .i64 4, .string s, .slice none 0 0, .slice none 0 0] (fun _ => False) _ HB1.out (jd_leafM n w1 lo _ 4 s) (fun _ h => h.elim) HL.out).mono ?_
  rintro e w2 ⟨rfl, v', h1, h2, h3⟩
  have HW2 := Lib.hid (HW1.out.trans h2.out)
  have HF2 := Lib.hid (Fr.below hb1.out h3.out)
  clear h2 h3 HW1 HB1 hb1
  go_wp2_with fail
  go_ret
  exact ⟨rfl, v', h1, HW2, HF2⟩
set_option maxHeartbeats 1000000 in
theorem given_none (b : Nat) (nm : ByteArray) (w : World) :
    Calls Tryz.prog 37 #[.pointer (some ⟨b, 0, none⟩), .string nm, .string ⟨#[]⟩] w fun e w' => e = .returned (.pointer (some ⟨b, 0, none⟩)) ∧ Hid (Below w.heap.size w w') := by
  go_enter Tryz.func37, Tryz.ntmps37
  go_wp2_with fail
  go_ret
  exact ⟨rfl, Below.refl _ _⟩
set_option maxHeartbeats 1000000 in
theorem some_none (b : Nat) (nm : ByteArray) (w : World) :
    Calls Tryz.prog 32 #[.pointer (some ⟨b, 0, none⟩), .string nm, .slice none 0 0] w fun e w' => e = .returned (.pointer (some ⟨b, 0, none⟩)) ∧ Hid (Below w.heap.size w w') := by
  go_enter Tryz.func32, Tryz.ntmps32
  go_wp2_with fail
  go_ret
  exact ⟨rfl, Below.refl _ _⟩
set_option maxHeartbeats 1000000 in
theorem each_int (fn : Value) (w : World) : Calls Tryz.prog 39 #[.slice none 0 0, fn] w fun e w' => e = .returned (.slice none 0 0) ∧ Hid (Below w.heap.size w w') := by
  go_enter Tryz.func39, Tryz.ntmps39
  go_wp2_with fail
  go_loopg [10, 5] 0 (fun g v10 v5 wi => v10 = .int .i64 0 ∧ v5 = .slice none 0 0 ∧ wi = w)
  case atStart => exact ⟨rfl, rfl, rfl⟩
  case round =>
    obtain ⟨rfl, rfl, rfl⟩ := hrel
    go_wp2_with fail
    go_ret
    exact ⟨rfl, Below.refl _ _⟩
set_option maxHeartbeats 1000000 in
theorem each_event (fn : Value) (w : World) : Calls Tryz.prog 42 #[.slice none 0 0, fn] w fun e w' => e = .returned (.slice none 0 0) ∧ Hid (Below w.heap.size w w') := by
  go_enter Tryz.func42, Tryz.ntmps42
  go_wp2_with fail
  go_loopg [10, 5] 0 (fun g v10 v5 wi => v10 = .int .i64 0 ∧ v5 = .slice none 0 0 ∧ wi = w)
  case atStart => exact ⟨rfl, rfl, rfl⟩
  case round =>
    obtain ⟨rfl, rfl, rfl⟩ := hrel
    go_wp2_with fail
    go_ret
    exact ⟨rfl, Below.refl _ _⟩
set_option maxHeartbeats 1000000 in
theorem each_role (fn : Value) (w : World) : Calls Tryz.prog 46 #[.slice none 0 0, fn] w fun e w' => e = .returned (.slice none 0 0) ∧ Hid (Below w.heap.size w w') := by
  go_enter Tryz.func46, Tryz.ntmps46
  go_wp2_with fail
  go_loopg [10, 5] 0 (fun g v10 v5 wi => v10 = .int .i64 0 ∧ v5 = .slice none 0 0 ∧ wi = w)
  case atStart => exact ⟨rfl, rfl, rfl⟩
  case round =>
    obtain ⟨rfl, rfl, rfl⟩ := hrel
    go_wp2_with fail
    go_ret
    exact ⟨rfl, Below.refl _ _⟩
set_option maxHeartbeats 1000000 in
theorem value_own {n lim lo m b : Nat} {base : ByteArray} {xs : List (ByteArray × JV)} {v : Value} (w : World) (hB : Bu n lim lo m b base xs v w) (hl : xs.length ≤ 1000) :
    Calls Tryz.prog 28 #[.pointer (some ⟨b, 0, none⟩)] w fun e w' => ∃ v1, e = .returned (.agg #[.int .i64 6, .string ⟨#[]⟩, .slice none 0 0, v1]) ∧ Hid ((jm n).R 88 w' lo (fun k => (lo ≤ k ∧ k < m) ∨ w.heap.size ≤ k) v1 xs) ∧ Hid (Below w.heap.size w w') := by
  have HV0 : Hid (Row 34 w.heap.size (leafA 0 ⟨#[]⟩) (w.alloc (.cells (leafA 0 ⟨#[]⟩) 34))) := Row.new w _ _ rfl
  have HB0 : Hid (Below w.heap.size w (w.alloc (.cells (leafA 0 ⟨#[]⟩) 34))) := (Below.refl _ _).alloc (Nat.le_refl _) _
  have hsz0 : (w.alloc (.cells (leafA 0 ⟨#[]⟩) 34)).heap.size = w.heap.size + 1 := by simp
  have HSZ := Lib.hid hsz0
  have HU := Lib.hid (hB.below HB0.out)
  have HT := Lib.hid hB.top
  have HL := Lib.hid hl
  have HLM : Hid (lim ≤ (w.alloc (.cells (leafA 0 ⟨#[]⟩) 34)).heap.size) := by have := hB.low; have := hB.lt; show _ ≤ _; rw [hsz0]; omega
  clear hB hsz0 hl
  go_enter Tryz.func28, Tryz.ntmps28
  go_upto_region 1 with (fail)
  change Code.wp _ _ _ _ (w.alloc (.cells (leafA 0 ⟨#[]⟩) 34))
  generalize w.alloc (.cells (leafA 0 ⟨#[]⟩) 34) = w0 at *
  have c16 : w0.cell? ⟨b, 16, none⟩ = some v := HU.out.row.cell 16 _ rfl
  go_wp2_with fail
  refine (Obj_own v _ HU.out.list HU.out.bas HL.out).mono ?_
  rintro e w1 ⟨v1, rfl, hR1, hb1⟩
  obtain ⟨A1, c1, rfl⟩ := Kd.R_slice hR1.out
  have HV1 := Lib.hid (HV0.out.below hb1.out)
  have HB1 := Lib.hid (below_then HB0.out HB0.out.size hb1.out)
  clear HV0 HB0 hb1 c16
  go_wp2_with ((with_reducible refine wpl_put_val (cs := ?_) HV1.out rfl ?hx ?hy ?hs ?hz ?_); (case hx => rfl); (case hy => rfl); (case hs => rfl); (case hz => (simp [Value.oneCell']; done)); intro w2 hr2 hw2)
  (try simp only [Exit.inBlock, Exit.then])
  have hb2 := hw2.below HB1.out (Nat.le_refl _)
  refine bodyPost_ret (v := .agg #[.int .i64 6, .string ⟨#[]⟩, .slice none 0 0, .slice A1 xs.length c1]) ?_ rfl ?_
  · exact results_val rfl _ _ _ _ rfl hr2 rfl
  · refine ⟨_, rfl, ?_, hb2⟩
    refine Kd.R_mono (Kd.R_step (w1 := w2) hR1.out (fun k hk _ => hw2.rest k ?_)) (fun k hk => ?_)
    · have := HT.out
      have := HSZ.out
      rcases hk with hk | hk
      · omega
      · omega
    · have := HSZ.out
      rcases hk with hk | hk
      · exact .inl hk
      · exact .inr (by omega)

set_option maxHeartbeats 2000000 in
set_option maxRecDepth 100000 in
theorem part_any {b : Nat} {base : ByteArray} {v : Value} (N : Nat) (w : World) (hr : Row 69 b (buA base v) w) :
    Calls Tryz.prog 31 #[.pointer (some ⟨b, 0, none⟩)] w fun e w' => ∃ b1, e = .returned (.pointer (some ⟨b1, 0, none⟩)) ∧ Hid (Bu N w.heap.size w.heap.size w'.heap.size b1 base [] (.slice none 0 0) w') ∧ Hid (Below w.heap.size w w') := by
  have HR := Lib.hid hr
  have HRG : Hid (w.rangeAt b 0 [.slice none 0 0, .slice none 0 0, .slice none 0 0, .slice none 0 0, .slice none 0 0, .slice none 0 0, .slice none 0 0, .slice none 0 0, .slice none 0 0, .slice none 0 0, .slice none 0 0, .slice none 0 0, .slice none 0 0, .slice none 0 0, .slice none 0 0]) := fun j u hu => by
    have := hr.cell j u (by
      have hj : j < 15 := (List.getElem?_eq_some_iff.1 hu).1
      rw [← hu]
      unfold buA
      rcases j with _ | _ | _ | _ | _ | _ | _ | _ | _ | _ | _ | _ | _ | _ | _ | j <;> first | rfl | omega)
    rwa [Nat.zero_add]
  have c15 : w.cell? ⟨b, 15, none⟩ = some (.string base) := hr.cell 15 _ rfl
  clear hr
  go_enter Tryz.func31, Tryz.ntmps31
  have hu15 := Tryz.underlying45
  have hi15 : (Tryz.prog.info? 45).map (·.size) = some ([.slice none 0 0, .slice none 0 0, .slice none 0 0, .slice none 0 0, .slice none 0 0, .slice none 0 0, .slice none 0 0, .slice none 0 0, .slice none 0 0, .slice none 0 0, .slice none 0 0, .slice none 0 0, .slice none 0 0, .slice none 0 0, .slice none 0 0] : List Value).length := info_tab
  have HBa : Hid (Below w.heap.size w (w.alloc (.cells (buA base (.slice none 0 0)) 69)).drew) := below_drew ((Below.refl _ _).alloc (Nat.le_refl _) _)
  have HNa : Hid (Row 69 w.heap.size (buA base (.slice none 0 0)) (w.alloc (.cells (buA base (.slice none 0 0)) 69)).drew) := (Row.new w _ _ rfl).below (below_drew (Below.refl _ _))
  have HRa := Lib.hid (HR.out.below HBa.out)
  have HSa : Hid ((w.alloc (.cells (buA base (.slice none 0 0)) 69)).drew.rangeAt b 0 [.slice none 0 0, .slice none 0 0, .slice none 0 0, .slice none 0 0, .slice none 0 0, .slice none 0 0, .slice none 0 0, .slice none 0 0, .slice none 0 0, .slice none 0 0, .slice none 0 0, .slice none 0 0, .slice none 0 0, .slice none 0 0, .slice none 0 0]) := fun j u hu => (HBa.out.cell HR.out.lt).trans (HRG.out j u hu)
  have HCa : Hid ((w.alloc (.cells (buA base (.slice none 0 0)) 69)).drew.cell? ⟨b, 15, none⟩ = some (.string base)) := HRa.out.cell 15 _ rfl
  go_upto_region 1 with (fail)
  refine wp_region_noPanic ?_
  refine wp_region_held_drew (S := (fun W => W.rangeAt b 0 [.slice none 0 0, .slice none 0 0, .slice none 0 0, .slice none 0 0, .slice none 0 0, .slice none 0 0, .slice none 0 0, .slice none 0 0, .slice none 0 0, .slice none 0 0, .slice none 0 0, .slice none 0 0, .slice none 0 0, .slice none 0 0, .slice none 0 0] ∧ W.cell? ⟨b, 15, none⟩ = some (.string base))) (by kernel_rfl) ?_ (fun hHeld => ?_)
  · exact ⟨HRG.out, c15⟩
  refine wpAnyH_take (i := 0) (v := ?_) rfl (by kernel_rfl) (by kernel_rfl) (by kernel_rfl) (fun _ _ _ h => h) (Or.inl ⟨by rfl, ?_⟩) (by assumption) ?_
  rotate_left
  · intro W hSw
    (try dsimp only at hSw)
    go_simp
    (try with_reducible rfl)
  (try simp only [List.getElem_toArray, List.getElem_cons_succ, List.getElem_cons_zero, Act.put, List.setIfInBounds_toArray, List.set_cons_zero, List.set_cons_succ])
  refine wpAnyH_take (i := 1) (v := ?_) rfl (by kernel_rfl) (by kernel_rfl) (by kernel_rfl) (fun _ _ _ h => h) (Or.inl ⟨by rfl, ?_⟩) (by assumption) ?_
  rotate_left
  · intro W hSw
    (try dsimp only at hSw)
    go_simp
    (try with_reducible rfl)
  (try simp only [List.getElem_toArray, List.getElem_cons_succ, List.getElem_cons_zero, Act.put, List.setIfInBounds_toArray, List.set_cons_zero, List.set_cons_succ])
  refine wpAnyH_take (i := 2) (v := ?_) rfl (by kernel_rfl) (by kernel_rfl) (by kernel_rfl) (fun _ _ _ h => h) (Or.inl ⟨by rfl, ?_⟩) (by assumption) ?_
  rotate_left
  · intro W hSw
    (try dsimp only at hSw)
    go_simp
    (try with_reducible rfl)
  (try simp only [List.getElem_toArray, List.getElem_cons_succ, List.getElem_cons_zero, Act.put, List.setIfInBounds_toArray, List.set_cons_zero, List.set_cons_succ])
  refine wpAnyH_take (i := 3) rfl (by kernel_rfl) (by kernel_rfl) (by kernel_rfl) (fun _ _ _ h => h) (yieldsIf_load_mid (by rfl) _ _ rfl b 0 rfl [.slice none 0 0, .slice none 0 0, .slice none 0 0, .slice none 0 0, .slice none 0 0, .slice none 0 0, .slice none 0 0, .slice none 0 0, .slice none 0 0, .slice none 0 0, .slice none 0 0, .slice none 0 0, .slice none 0 0, .slice none 0 0, .slice none 0 0] _ (fun W h => h.1) hu15 rfl hi15) (by assumption) ?_
  (try simp only [List.getElem_toArray, List.getElem_cons_succ, List.getElem_cons_zero, Act.put, List.setIfInBounds_toArray, List.set_cons_zero, List.set_cons_succ])
  refine wpAnyH_take (i := 4) (v := ?_) rfl (by kernel_rfl) (by kernel_rfl) (by kernel_rfl) (fun _ _ _ h => h) (Or.inl ⟨by rfl, ?_⟩) (by assumption) ?_
  rotate_left
  · intro W hSw
    (try dsimp only at hSw)
    go_simp
    (try with_reducible rfl)
  (try simp only [List.getElem_toArray, List.getElem_cons_succ, List.getElem_cons_zero, Act.put, List.setIfInBounds_toArray, List.set_cons_zero, List.set_cons_succ])
  refine wpAnyH_take (i := 5) (v := ?_) rfl (by kernel_rfl) (by kernel_rfl) (by kernel_rfl) (fun _ _ _ h => h) (Or.inl ⟨by rfl, ?_⟩) (by assumption) ?_
  rotate_left
  · intro W hSw
    (try dsimp only at hSw)
    go_simp
    (try with_reducible rfl)
  (try simp only [List.getElem_toArray, List.getElem_cons_succ, List.getElem_cons_zero, Act.put, List.setIfInBounds_toArray, List.set_cons_zero, List.set_cons_succ])
  refine wpAnyH_take (i := 6) (v := ?_) rfl (by kernel_rfl) (by kernel_rfl) (by kernel_rfl) (fun _ _ _ h => h) (Or.inl ⟨by rfl, ?_⟩) (by assumption) ?_
  rotate_left
  · intro W hSw
    (try dsimp only at hSw)
    go_simp
    (try with_reducible rfl)
  (try simp only [List.getElem_toArray, List.getElem_cons_succ, List.getElem_cons_zero, Act.put, List.setIfInBounds_toArray, List.set_cons_zero, List.set_cons_succ])
  refine wpAnyH_take (i := 7) (v := ?_) rfl (by kernel_rfl) (by kernel_rfl) (by kernel_rfl) (fun _ _ _ h => h) (Or.inl ⟨by rfl, ?_⟩) (by assumption) ?_
  rotate_left
  · intro W hSw
    (try dsimp only at hSw)
    go_simp
    (try with_reducible rfl)
  (try simp only [List.getElem_toArray, List.getElem_cons_succ, List.getElem_cons_zero, Act.put, List.setIfInBounds_toArray, List.set_cons_zero, List.set_cons_succ])
  refine wpAnyH_take (i := 8) (v := ?_) rfl (by kernel_rfl) (by kernel_rfl) (by kernel_rfl) (fun _ _ _ h => h) (Or.inl ⟨by rfl, ?_⟩) (by assumption) ?_
  rotate_left
  · intro W hSw
    (try dsimp only at hSw)
    go_simp
    (try with_reducible rfl)
  (try simp only [List.getElem_toArray, List.getElem_cons_succ, List.getElem_cons_zero, Act.put, List.setIfInBounds_toArray, List.set_cons_zero, List.set_cons_succ])
  refine wpAnyH_ready (rs := [9]) (by kernel_rfl) (by simp) ?_
  refine AllReadyH.cons (o := _) rfl (fun K hK => ?_) AllReadyH.nil
  go_simp
  refine hK.out _ _ ⟨HSa.out, HCa.out⟩ (fun hHeld => ?_)
  clear hK K
  (try simp only [List.getElem_toArray, List.getElem_cons_succ, List.getElem_cons_zero, Act.put, List.setIfInBounds_toArray, List.set_cons_zero, List.set_cons_succ])
  refine wpAnyH_take (i := 10) (v := ?_) rfl (by kernel_rfl) (by kernel_rfl) (by kernel_rfl) (fun _ _ _ h => h) (Or.inl ⟨by rfl, ?_⟩) (by assumption) ?_
  rotate_left
  · intro W hSw
    (try dsimp only at hSw)
    go_simp
    (try with_reducible rfl)
  (try simp only [List.getElem_toArray, List.getElem_cons_succ, List.getElem_cons_zero, Act.put, List.setIfInBounds_toArray, List.set_cons_zero, List.set_cons_succ])
  refine wpAnyH_done (by kernel_rfl) (NoPanic.normal ?_) _
  go_wp2_with fail
  go_ret
  exact ⟨w.heap.size, rfl, ⟨HNa.out, Kd.R_nil _ _ _ _ _, Nat.le_refl _, Nat.le_refl _, Nat.le_refl _, HBa.out.size⟩, HBa.out⟩
end Go.Proofs.YtangheahliekeaaGreatDoor

