/- What the claim uses of the text L2. -/
import Derived.Test.YtangheahliekeaaGreatDoorVL1
set_option linter.unusedVariables false
set_option linter.unusedSimpArgs false
namespace Go.Proofs.YtangheahliekeaaGreatDoor
open Go.RowKit Go.PlainAid
open Go.Proofs.YtangheahliekeaaGreatDoorW.PrintWords hiding bt
open Go.Proofs.YtangheahliekeaaGreatDoorW.PrintMore

set_option maxHeartbeats 4000000 in
set_option maxRecDepth 100000 in
theorem put_any {N lim lo m b : Nat} {base : ByteArray} {xs : List (ByteArray × JV)} {v : Value} (nm : ByteArray) (x : JV) (cs : List Value) (okp : Nat → Prop) (w : World) (hB : Bu N lim lo m b base xs v w) (hx : (jd N).M w lo okp x cs) (hok : ∀ k, okp k → m ≤ k) (hl : xs.length ≤ 1000) :
    Calls Tryz.prog 26 #[.pointer (some ⟨b, 0, none⟩), .string nm, .agg cs.toArray] w fun e w' => e = .returned (.pointer (some ⟨b, 0, none⟩)) ∧ ∃ v', Hid (Bu N lim lo w'.heap.size b base (xs ++ [(nm, x)]) v' w') ∧ Hid (Below lim w w') ∧ Hid (Fr b v w w') := by
  obtain ⟨n, rfl⟩ := jd_cells ((jd N).K_of_M hx)
  obtain ⟨A2, c2, A3, c3, rfl, _⟩ := jd_open ((jd _).K_of_M hx)
  obtain ⟨A, c, hv, hle, hC⟩ := Kd.R_reads hB.list
  subst hv
  change Calls _ _ #[_, _, .agg #[.int .i64 x.kind, .string x.text, .slice A2 x.list.length c2, .slice A3 x.mem.length c3]] _ _
  have hlim : lim ≤ w.heap.size := Nat.le_trans hB.low (Nat.le_of_lt hB.lt)
  have hBo := Lib.hid (Below.refl lim w |>.alloc hlim (.cells #[.int .i64 x.kind, .string x.text, .slice A2 x.list.length c2, .slice A3 x.mem.length c3] 34))
  have hWo : Hid (Below w.heap.size w (w.alloc (.cells #[.int .i64 x.kind, .string x.text, .slice A2 x.list.length c2, .slice A3 x.mem.length c3] 34))) := (Below.refl _ w).alloc (Nat.le_refl _) _
  have HU := Lib.hid (hB.below ((Below.refl _ w).alloc (Nat.le_refl _) (.cells #[.int .i64 x.kind, .string x.text, .slice A2 x.list.length c2, .slice A3 x.mem.length c3] 34)))
  have HX := Lib.hid (Kd.M_below ((jd (n + 1)).M_bound hx) ((Below.refl _ w).alloc (Nat.le_refl _) (.cells #[.int .i64 x.kind, .string x.text, .slice A2 x.list.length c2, .slice A3 x.mem.length c3] 34)))
  have HV : Hid (Row 34 w.heap.size #[.int .i64 x.kind, .string x.text, .slice A2 x.list.length c2, .slice A3 x.mem.length c3] (w.alloc (.cells #[.int .i64 x.kind, .string x.text, .slice A2 x.list.length c2, .slice A3 x.mem.length c3] 34))) := Row.new w _ _ rfl
  have HOK := Lib.hid hok
  have HT := Lib.hid hB.top
  have HLT := Lib.hid hB.lt
  have HLM := Lib.hid hlim
  have HVL : Hid (w.heap.size < (w.alloc (.cells #[.int .i64 x.kind, .string x.text, .slice A2 x.list.length c2, .slice A3 x.mem.length c3] 34)).heap.size) := by show _ < _; simp
  have HSZ : Hid (w.heap.size ≤ (w.alloc (.cells #[.int .i64 x.kind, .string x.text, .slice A2 x.list.length c2, .slice A3 x.mem.length c3] 34)).heap.size) := by show _ ≤ _; simp
  have HLB := Lib.hid hB.low
  have HMD := Lib.hid hB.mid
  have HLO := Lib.hid hB.bas
  clear hB hx hok hC hlim
  go_enter Tryz.func26, Tryz.ntmps26
  go_upto_region 1 with (fail)
  generalize w.alloc (.cells #[.int .i64 x.kind, .string x.text, .slice A2 x.list.length c2, .slice A3 x.mem.length c3] 34) = w0 at *
  have c16 : w0.cell? ⟨b, 16, none⟩ = some (.slice A xs.length c) := HU.out.row.cell 16 _ rfl
  have d0 : w0.cell? ⟨w.heap.size, 0, none⟩ = some (.int .i64 x.kind) := HV.out.cell 0 _ rfl
  have d1 : w0.cell? ⟨w.heap.size, 1, none⟩ = some (.string x.text) := HV.out.cell 1 _ rfl
  have d2 : w0.cell? ⟨w.heap.size, 2, none⟩ = some (.slice A2 x.list.length c2) := HV.out.cell 2 _ rfl
  have d3 : w0.cell? ⟨w.heap.size, 3, none⟩ = some (.slice A3 x.mem.length c3) := HV.out.cell 3 _ rfl
  have HBL : Hid (b < w0.heap.size) := HU.out.lt
  have HRd : Hid ((jm (n + 1)).R 88 w0.drew lo (fun k => lo ≤ k) (.slice A xs.length c) xs) := Kd.R_mono (Kd.R_below HU.out.list (below_drew (Below.refl _ _))) (fun _ h => h.1)
  have HLW : Hid (lo ≤ w0.drew.heap.size) := Nat.le_trans HLO.out hBo.out.size
  have HUd := Lib.hid (HU.out.below (below_drew (Below.refl _ _)))
  have HXd := Lib.hid (Kd.M_below HX.out (below_drew (Below.refl _ _)))
  have HVd := Lib.hid (HV.out.below (below_drew (Below.refl _ _)))
  have hn2 : (xs.length : Int) < (xs.length : Int) + 1 := by omega
  have hn1 : (0 : Int) ≤ (xs.length : Int) := by omega

  refine wp_region_noPanic ?_
  refine wp_region_held_drew (S := (fun W => W.cell? ⟨w.heap.size, 0, none⟩ = some (.int .i64 x.kind) ∧ W.cell? ⟨w.heap.size, 1, none⟩ = some (.string x.text) ∧ W.cell? ⟨w.heap.size, 2, none⟩ = some (.slice A2 x.list.length c2) ∧ W.cell? ⟨w.heap.size, 3, none⟩ = some (.slice A3 x.mem.length c3))) (by kernel_rfl) ?_ (fun hHeld => ?_)
  · exact ⟨d0, d1, d2, d3⟩
  refine wpAnyH_take (i := 0) (v := ?_) rfl (by kernel_rfl) (by kernel_rfl) (by kernel_rfl) (fun _ _ _ h => h) (Or.inl ⟨by rfl, ?_⟩) (by assumption) ?_
  rotate_left
  · intro W hSw
    (try dsimp only at hSw)
    go_simp
    (try with_reducible rfl)
  (try simp only [List.getElem_toArray, List.getElem_cons_succ, List.getElem_cons_zero, Act.put, List.setIfInBounds_toArray, List.set_cons_zero, List.set_cons_succ])
  refine wpAnyH_take (i := 1) (v := ?_) rfl (by kernel_rfl) (by kernel_rfl) (by kernel_rfl) (fun _ _ _ h => h) (Or.inl ⟨by rfl, ?_⟩) (by assumption) ?_
  rotate_left
  · intro W hSw
    (try dsimp only at hSw)
    go_simp
    (try with_reducible rfl)
  (try simp only [List.getElem_toArray, List.getElem_cons_succ, List.getElem_cons_zero, Act.put, List.setIfInBounds_toArray, List.set_cons_zero, List.set_cons_succ])
  refine wpAnyH_take (i := 2) (v := ?_) rfl (by kernel_rfl) (by kernel_rfl) (by kernel_rfl) (fun _ _ _ h => h) (Or.inl ⟨by rfl, ?_⟩) (by assumption) ?_
  rotate_left
  · intro W hSw
    (try dsimp only at hSw)
    go_simp
    (try with_reducible rfl)
  (try simp only [List.getElem_toArray, List.getElem_cons_succ, List.getElem_cons_zero, Act.put, List.setIfInBounds_toArray, List.set_cons_zero, List.set_cons_succ])
  refine wpAnyH_take (i := 4) (v := ?_) rfl (by kernel_rfl) (by kernel_rfl) (by kernel_rfl) (fun _ _ _ h => h) (Or.inl ⟨by rfl, ?_⟩) (by assumption) ?_
  rotate_left
  · intro W hSw
    (try dsimp only at hSw)
    go_simp
    (try with_reducible rfl)
  (try simp only [List.getElem_toArray, List.getElem_cons_succ, List.getElem_cons_zero, Act.put, List.setIfInBounds_toArray, List.set_cons_zero, List.set_cons_succ])
  refine wpAnyH_take (i := 5) (v := ?_) rfl (by kernel_rfl) (by kernel_rfl) (by kernel_rfl) (fun _ _ _ h => h) (Or.inl ⟨by rfl, ?_⟩) (by assumption) ?_
  rotate_left
  · intro W hSw
    (try dsimp only at hSw)
    go_simp
    (try with_reducible rfl)
  (try simp only [List.getElem_toArray, List.getElem_cons_succ, List.getElem_cons_zero, Act.put, List.setIfInBounds_toArray, List.set_cons_zero, List.set_cons_succ])
  refine wpAnyH_take (i := 6) (v := ?_) rfl (by kernel_rfl) (by kernel_rfl) (by kernel_rfl) (fun _ _ _ h => h) (Or.inl ⟨by rfl, ?_⟩) (by assumption) ?_
  rotate_left
  · intro W hSw
    (try dsimp only at hSw)
    go_simp
    (try with_reducible rfl)
  (try simp only [List.getElem_toArray, List.getElem_cons_succ, List.getElem_cons_zero, Act.put, List.setIfInBounds_toArray, List.set_cons_zero, List.set_cons_succ])
  refine wpAnyH_ready (rs := [3, 8]) (by kernel_rfl) (by simp) ?_
  refine AllReadyH.cons (o := _) rfl (fun K hK => ?_) (AllReadyH.cons (o := _) rfl (fun K hK => ?_) AllReadyH.nil)
  ·

    go_simp
    refine hK.out _ _ (by first | exact ⟨d0, d1, d2, d3⟩ | exact ⟨e0, e1, e2, e3⟩) (fun hHeld => ?_)
    clear hK K
    (try simp only [List.getElem_toArray, List.getElem_cons_succ, List.getElem_cons_zero, Act.put, List.setIfInBounds_toArray, List.set_cons_zero, List.set_cons_succ])
    refine wpAnyH_take (i := 7) (v := ?_) rfl (by kernel_rfl) (by kernel_rfl) (by kernel_rfl) (fun _ _ _ h => h) (Or.inl ⟨by rfl, ?_⟩) (by assumption) ?_
    rotate_left
    · intro W hSw
      (try dsimp only at hSw)
      go_simp
      (try with_reducible rfl)
    (try simp only [List.getElem_toArray, List.getElem_cons_succ, List.getElem_cons_zero, Act.put, List.setIfInBounds_toArray, List.set_cons_zero, List.set_cons_succ])
    refine wpAnyH_ready (rs := [8]) (by kernel_rfl) (by simp) ?_
    refine AllReadyH.cons (o := _) rfl (fun K hK => ?_) AllReadyH.nil
    go_simp
    have e0 : (w0.alloc (.cells #[.string ⟨#[]⟩, .int .i64 0, .string ⟨#[]⟩, .slice none 0 0, .slice none 0 0] 88)).cell? ⟨w.heap.size, 0, none⟩ = some (.int .i64 x.kind) := (World.cell?_alloc_lt _ _ _ (by exact HVL.out)).trans d0
    have e1 : (w0.alloc (.cells #[.string ⟨#[]⟩, .int .i64 0, .string ⟨#[]⟩, .slice none 0 0, .slice none 0 0] 88)).cell? ⟨w.heap.size, 1, none⟩ = some (.string x.text) := (World.cell?_alloc_lt _ _ _ (by exact HVL.out)).trans d1
    have e2 : (w0.alloc (.cells #[.string ⟨#[]⟩, .int .i64 0, .string ⟨#[]⟩, .slice none 0 0, .slice none 0 0] 88)).cell? ⟨w.heap.size, 2, none⟩ = some (.slice A2 x.list.length c2) := (World.cell?_alloc_lt _ _ _ (by exact HVL.out)).trans d2
    have e3 : (w0.alloc (.cells #[.string ⟨#[]⟩, .int .i64 0, .string ⟨#[]⟩, .slice none 0 0, .slice none 0 0] 88)).cell? ⟨w.heap.size, 3, none⟩ = some (.slice A3 x.mem.length c3) := (World.cell?_alloc_lt _ _ _ (by exact HVL.out)).trans d3
    have f16 : (w0.alloc (.cells #[.string ⟨#[]⟩, .int .i64 0, .string ⟨#[]⟩, .slice none 0 0, .slice none 0 0] 88)).cell? ⟨b, 16, none⟩ = some (.slice A xs.length c) := (World.cell?_alloc_lt _ _ _ (by exact HBL.out)).trans c16
    refine hK.out _ _ ⟨e0, e1, e2, e3⟩ (fun hHeld => ?_)
    clear hK K
    (try simp only [List.getElem_toArray, List.getElem_cons_succ, List.getElem_cons_zero, Act.put, List.setIfInBounds_toArray, List.set_cons_zero, List.set_cons_succ])
    refine wpAnyH_ready (rs := [9]) (by kernel_rfl) (by simp) ?_
    refine AllReadyH.cons (o := _) rfl (fun K hK => ?_) AllReadyH.nil
    refine Kd.R_append_step (jm (n + 1)) (w0 := w0.drew) (W := w0.drew) lo (by rfl) (.tmp 10) (.tmp 15) 32 88 _ 88 (by rfl) Tryz.underlying32 (jm_info (n + 1)) (by rw [jm_sz']; rfl) (by rw [jm_sz']; omega) (by omega) (.slice A xs.length c) xs (⟨#[]⟩, jz) [.string ⟨#[]⟩, .int .i64 0, .string ⟨#[]⟩, .slice none 0 0, .slice none 0 0] (fun k => lo ≤ k) (fun _ => False) (by rfl) (by rfl) (jm_ofM ⟨#[]⟩ (jd_leafM n w0.drew lo _ 0 ⟨#[]⟩)) (fun _ h => h.elim) (fun k hk => Nat.le_trans HLW.out hk) HRd.out (Below.refl _ _) HLW.out (by omega) ?_
    intro v1 w7 ho hb hg7 hat
    obtain ⟨g, cap, rfl, HR7, HV7, HG7, HX7, HK7, HL7, HF7, HN7⟩ := put_mid nm HUd.out HXd.out (fun k hk => ⟨HOK.out k hk.1, hk.2.1, Nat.lt_of_lt_of_le hk.2.2.1 HSZ.out⟩) HVd.out HT.out ho hg7 hat
    have HB7 := Lib.hid ((below_drew hBo.out).trans (below_less hb HMD.out))
    have HF7 := Lib.hid (Fr.below (below_drew hWo.out) HF7.out)
    have HN7 : Hid (∀ k, k < w.heap.size → (Value.slice A xs.length c).ownBlock ≠ some k → k ≠ g) := fun k h1 h2 => HN7.out k (Nat.lt_of_lt_of_le h1 (below_drew hWo.out).size) h2
    have HZ7 : Hid (w.heap.size ≤ w7.heap.size) := Nat.le_trans hWo.out.size hb.size
    clear ho hb hg7 hat
    have b7 := HR7.out.lt
    have c7 : w7.cell? ⟨b, 16, none⟩ = some (.slice A xs.length c) := HR7.out.cell 16 _ rfl
    have f7 := HR7.out.frozen 16
    (try dsimp only)
    refine hK.out _ _ (val_cells HV7.out) (fun hHeld => ?_)
    clear hK K
    (try simp only [List.getElem_toArray, List.getElem_cons_succ, List.getElem_cons_zero, Act.put, List.setIfInBounds_toArray, List.set_cons_zero, List.set_cons_succ])
    refine wpAnyH_take (i := 10) (v := ?_) rfl (by kernel_rfl) (by kernel_rfl) (by kernel_rfl) (fun _ _ _ h => h) (Or.inl ⟨by rfl, ?_⟩) (by assumption) ?_
    rotate_left
    · intro W hSw
      (try dsimp only at hSw)
      go_simp
      (try with_reducible rfl)
    (try simp only [List.getElem_toArray, List.getElem_cons_succ, List.getElem_cons_zero, Act.put, List.setIfInBounds_toArray, List.set_cons_zero, List.set_cons_succ])
    refine wpAnyH_take (i := 12) (v := ?_) rfl (by kernel_rfl) (by kernel_rfl) (by kernel_rfl) (fun _ _ _ h => h) (Or.inl ⟨by rfl, ?_⟩) (by assumption) ?_
    rotate_left
    · intro W hSw
      (try dsimp only at hSw)
      go_simp
      (try with_reducible rfl)
    (try simp only [List.getElem_toArray, List.getElem_cons_succ, List.getElem_cons_zero, Act.put, List.setIfInBounds_toArray, List.set_cons_zero, List.set_cons_succ])
    refine wpAnyH_take (i := 13) (v := ?_) rfl (by kernel_rfl) (by kernel_rfl) (by kernel_rfl) (fun _ _ _ h => h) (Or.inl ⟨by rfl, ?_⟩) (by assumption) ?_
    rotate_left
    · intro W hSw
      (try dsimp only at hSw)
      go_simp
      (try with_reducible rfl)
    (try simp only [List.getElem_toArray, List.getElem_cons_succ, List.getElem_cons_zero, Act.put, List.setIfInBounds_toArray, List.set_cons_zero, List.set_cons_succ])
    refine wpAnyH_ready (rs := [11, 14]) (by kernel_rfl) (by simp) ?_
    refine AllReadyH.cons (o := _) rfl (fun K hK => ?_) (AllReadyH.cons (o := _) rfl (fun K hK => ?_) AllReadyH.nil)
    · obtain ⟨w8, hst0, hR8, hG8, _⟩ := mem_store nm HL7.out rfl HX7.out HK7.out
      have hst : (Instr.storeAt 88 (.pointer (some ⟨g, xs.length * 5, none⟩)) (.agg #[.string nm, .int .i64 x.kind, .string x.text, .slice A2 x.list.length c2, .slice A3 x.mem.length c3])).run Tryz.prog w7 = .ok () w8 := hst0
      clear hst0
      refine step_store (by rfl) 88 (.tmp 17) (.tmp 13) (by rfl) _ _ (by rfl) (by rfl) hst ?_
      have HR8 := Lib.hid hR8
      have HB8 := Lib.hid (HR7.out.kept hG8 (fun e => HG7.out.1 (Option.some.inj e).symm))
      have HV8 := Lib.hid (HV7.out.kept hG8 (fun e => HG7.out.2.1 (Option.some.inj e).symm))
      have HW8 := Lib.hid (below_grown lim HLM.out HB7.out hG8 (Nat.le_trans HMD.out HG7.out.2.2))
      have HF8 := Lib.hid (Fr.grown HF7.out HZ7.out hG8 HN7.out)
      have HQ8 := Lib.hid hG8.size
      clear hR8 hG8 c7 f7 b7
      have b8 := HB8.out.lt
      have c8 : w8.cell? ⟨b, 16, none⟩ = some (.slice A xs.length c) := HB8.out.cell 16 _ rfl
      have f8 := HB8.out.frozen 16
      (try dsimp only)
      refine hK.out _ _ (val_cells HV8.out) (fun hHeld => ?_)
      clear hK K
      (try simp only [List.getElem_toArray, List.getElem_cons_succ, List.getElem_cons_zero, Act.put, List.setIfInBounds_toArray, List.set_cons_zero, List.set_cons_succ])
      refine wpAnyH_ready (rs := [14]) (by kernel_rfl) (by simp) ?_
      refine AllReadyH.cons (o := _) rfl (fun K hK => ?_) AllReadyH.nil
      go_simp
      refine hK.out _ _ (val_cells (HV8.out.far (by have := HLT.out; omega) _)) (fun hHeld => ?_)
      clear hK K
      (try simp only [List.getElem_toArray, List.getElem_cons_succ, List.getElem_cons_zero, Act.put, List.setIfInBounds_toArray, List.set_cons_zero, List.set_cons_succ])
      refine wpAnyH_done (by kernel_rfl) (NoPanic.normal ?_) _
      go_wp2_with fail
      go_ret
      exact ⟨rfl, _, Bu.make (Row.set16 HB8.out) (R_far16 HR8.out HB8.out _) HLB.out HMD.out (by rw [World.size_setCell]; exact Nat.le_trans HLO.out (Nat.le_trans HZ7.out HQ8.out)), below_set16 lim HW8.out HLB.out _, Fr.set HF8.out _⟩
    · have HB8 := Lib.hid (Row.set16 (v1 := .slice (some ⟨g, 0, none⟩) (xs.length + 1) cap) HR7.out)
      go_simp
      have HL8 := Lib.hid (R_far16 HL7.out HR7.out (.slice (some ⟨g, 0, none⟩) (xs.length + 1) cap))
      have HX8 := Lib.hid (M_far16 HX7.out HR7.out (.slice (some ⟨g, 0, none⟩) (xs.length + 1) cap))
      have HV8 := Lib.hid (HV7.out.far (c := b) (o := 16) (by have := HLT.out; omega) (.slice (some ⟨g, 0, none⟩) (xs.length + 1) cap))
      have HW8 := Lib.hid (below_set16 lim HB7.out HLB.out (.slice (some ⟨g, 0, none⟩) (xs.length + 1) cap))
      have HF8 := Lib.hid (Fr.set (o := 16) HF7.out (.slice (some ⟨g, 0, none⟩) (xs.length + 1) cap))
      have HZ8 : Hid (w.heap.size ≤ (w7.setCell ⟨b, 16, none⟩ (.slice (some ⟨g, 0, none⟩) (xs.length + 1) cap)).heap.size) := by show _ ≤ _; rw [World.size_setCell]; exact HZ7.out
      clear c7 f7 b7
      refine hK.out _ _ (val_cells HV8.out) (fun hHeld => ?_)
      clear hK K
      (try simp only [List.getElem_toArray, List.getElem_cons_succ, List.getElem_cons_zero, Act.put, List.setIfInBounds_toArray, List.set_cons_zero, List.set_cons_succ])
      generalize w7.setCell ⟨b, 16, none⟩ (.slice (some ⟨g, 0, none⟩) (xs.length + 1) cap) = w8 at *
      refine wpAnyH_ready (rs := [11]) (by kernel_rfl) (by simp) ?_
      refine AllReadyH.cons (o := _) rfl (fun K hK => ?_) AllReadyH.nil
      obtain ⟨w9, hst0, hR9, hG9, _⟩ := mem_store nm HL8.out rfl HX8.out (fun k hk => HK7.out k hk)
      have hst : (Instr.storeAt 88 (.pointer (some ⟨g, xs.length * 5, none⟩)) (.agg #[.string nm, .int .i64 x.kind, .string x.text, .slice A2 x.list.length c2, .slice A3 x.mem.length c3])).run Tryz.prog w8 = .ok () w9 := hst0
      clear hst0
      refine step_store (by rfl) 88 (.tmp 17) (.tmp 13) (by rfl) _ _ (by rfl) (by rfl) hst ?_
      have HB9 := Lib.hid (HB8.out.kept hG9 (fun e => HG7.out.1 (Option.some.inj e).symm))
      have HV9 := Lib.hid (HV8.out.kept hG9 (fun e => HG7.out.2.1 (Option.some.inj e).symm))
      have HW9 := Lib.hid (below_grown lim HLM.out HW8.out hG9 (Nat.le_trans HMD.out HG7.out.2.2))
      have HR9 := Lib.hid hR9
      have HF9 := Lib.hid (Fr.grown HF8.out HZ8.out hG9 HN7.out)
      have HQ9 := Lib.hid hG9.size
      clear hR9 hG9
      (try dsimp only)
      refine hK.out _ _ (val_cells HV9.out) (fun hHeld => ?_)
      clear hK K
      (try simp only [List.getElem_toArray, List.getElem_cons_succ, List.getElem_cons_zero, Act.put, List.setIfInBounds_toArray, List.set_cons_zero, List.set_cons_succ])
      refine wpAnyH_done (by kernel_rfl) (NoPanic.normal ?_) _
      go_wp2_with fail
      go_ret
      exact ⟨rfl, _, Bu.make HB9.out HR9.out HLB.out HMD.out (Nat.le_trans HLO.out (Nat.le_trans HZ8.out HQ9.out)), HW9.out, HF9.out⟩
  ·
    go_simp
    have e0 : (w0.alloc (.cells #[.string ⟨#[]⟩, .int .i64 0, .string ⟨#[]⟩, .slice none 0 0, .slice none 0 0] 88)).cell? ⟨w.heap.size, 0, none⟩ = some (.int .i64 x.kind) := (World.cell?_alloc_lt _ _ _ (by exact HVL.out)).trans d0
    have e1 : (w0.alloc (.cells #[.string ⟨#[]⟩, .int .i64 0, .string ⟨#[]⟩, .slice none 0 0, .slice none 0 0] 88)).cell? ⟨w.heap.size, 1, none⟩ = some (.string x.text) := (World.cell?_alloc_lt _ _ _ (by exact HVL.out)).trans d1
    have e2 : (w0.alloc (.cells #[.string ⟨#[]⟩, .int .i64 0, .string ⟨#[]⟩, .slice none 0 0, .slice none 0 0] 88)).cell? ⟨w.heap.size, 2, none⟩ = some (.slice A2 x.list.length c2) := (World.cell?_alloc_lt _ _ _ (by exact HVL.out)).trans d2
    have e3 : (w0.alloc (.cells #[.string ⟨#[]⟩, .int .i64 0, .string ⟨#[]⟩, .slice none 0 0, .slice none 0 0] 88)).cell? ⟨w.heap.size, 3, none⟩ = some (.slice A3 x.mem.length c3) := (World.cell?_alloc_lt _ _ _ (by exact HVL.out)).trans d3
    have f16 : (w0.alloc (.cells #[.string ⟨#[]⟩, .int .i64 0, .string ⟨#[]⟩, .slice none 0 0, .slice none 0 0] 88)).cell? ⟨b, 16, none⟩ = some (.slice A xs.length c) := (World.cell?_alloc_lt _ _ _ (by exact HBL.out)).trans c16
    refine hK.out _ _ ⟨e0, e1, e2, e3⟩ (fun hHeld => ?_)
    clear hK K
    (try simp only [List.getElem_toArray, List.getElem_cons_succ, List.getElem_cons_zero, Act.put, List.setIfInBounds_toArray, List.set_cons_zero, List.set_cons_succ])
    refine wpAnyH_ready (rs := [3]) (by kernel_rfl) (by simp) ?_
    refine AllReadyH.cons (o := _) rfl (fun K hK => ?_) AllReadyH.nil
    clear c16
    go_simp
    refine hK.out _ _ (by first | exact ⟨d0, d1, d2, d3⟩ | exact ⟨e0, e1, e2, e3⟩) (fun hHeld => ?_)
    clear hK K
    (try simp only [List.getElem_toArray, List.getElem_cons_succ, List.getElem_cons_zero, Act.put, List.setIfInBounds_toArray, List.set_cons_zero, List.set_cons_succ])
    refine wpAnyH_take (i := 7) (v := ?_) rfl (by kernel_rfl) (by kernel_rfl) (by kernel_rfl) (fun _ _ _ h => h) (Or.inl ⟨by rfl, ?_⟩) (by assumption) ?_
    rotate_left
    · intro W hSw
      (try dsimp only at hSw)
      go_simp
      (try with_reducible rfl)
    (try simp only [List.getElem_toArray, List.getElem_cons_succ, List.getElem_cons_zero, Act.put, List.setIfInBounds_toArray, List.set_cons_zero, List.set_cons_succ])
    refine wpAnyH_ready (rs := [9]) (by kernel_rfl) (by simp) ?_
    refine AllReadyH.cons (o := _) rfl (fun K hK => ?_) AllReadyH.nil
    refine Kd.R_append_step (jm (n + 1)) (w0 := w0.drew) (W := w0.drew) lo (by rfl) (.tmp 10) (.tmp 15) 32 88 _ 88 (by rfl) Tryz.underlying32 (jm_info (n + 1)) (by rw [jm_sz']; rfl) (by rw [jm_sz']; omega) (by omega) (.slice A xs.length c) xs (⟨#[]⟩, jz) [.string ⟨#[]⟩, .int .i64 0, .string ⟨#[]⟩, .slice none 0 0, .slice none 0 0] (fun k => lo ≤ k) (fun _ => False) (by rfl) (by rfl) (jm_ofM ⟨#[]⟩ (jd_leafM n w0.drew lo _ 0 ⟨#[]⟩)) (fun _ h => h.elim) (fun k hk => Nat.le_trans HLW.out hk) HRd.out (Below.refl _ _) HLW.out (by omega) ?_
    intro v1 w7 ho hb hg7 hat
    obtain ⟨g, cap, rfl, HR7, HV7, HG7, HX7, HK7, HL7, HF7, HN7⟩ := put_mid nm HUd.out HXd.out (fun k hk => ⟨HOK.out k hk.1, hk.2.1, Nat.lt_of_lt_of_le hk.2.2.1 HSZ.out⟩) HVd.out HT.out ho hg7 hat
    have HB7 := Lib.hid ((below_drew hBo.out).trans (below_less hb HMD.out))
    have HF7 := Lib.hid (Fr.below (below_drew hWo.out) HF7.out)
    have HN7 : Hid (∀ k, k < w.heap.size → (Value.slice A xs.length c).ownBlock ≠ some k → k ≠ g) := fun k h1 h2 => HN7.out k (Nat.lt_of_lt_of_le h1 (below_drew hWo.out).size) h2
    have HZ7 : Hid (w.heap.size ≤ w7.heap.size) := Nat.le_trans hWo.out.size hb.size
    clear ho hb hg7 hat
    have b7 := HR7.out.lt
    have c7 : w7.cell? ⟨b, 16, none⟩ = some (.slice A xs.length c) := HR7.out.cell 16 _ rfl
    have f7 := HR7.out.frozen 16
    (try dsimp only)
    refine hK.out _ _ (val_cells HV7.out) (fun hHeld => ?_)
    clear hK K
    (try simp only [List.getElem_toArray, List.getElem_cons_succ, List.getElem_cons_zero, Act.put, List.setIfInBounds_toArray, List.set_cons_zero, List.set_cons_succ])
    refine wpAnyH_take (i := 10) (v := ?_) rfl (by kernel_rfl) (by kernel_rfl) (by kernel_rfl) (fun _ _ _ h => h) (Or.inl ⟨by rfl, ?_⟩) (by assumption) ?_
    rotate_left
    · intro W hSw
      (try dsimp only at hSw)
      go_simp
      (try with_reducible rfl)
    (try simp only [List.getElem_toArray, List.getElem_cons_succ, List.getElem_cons_zero, Act.put, List.setIfInBounds_toArray, List.set_cons_zero, List.set_cons_succ])
    refine wpAnyH_take (i := 12) (v := ?_) rfl (by kernel_rfl) (by kernel_rfl) (by kernel_rfl) (fun _ _ _ h => h) (Or.inl ⟨by rfl, ?_⟩) (by assumption) ?_
    rotate_left
    · intro W hSw
      (try dsimp only at hSw)
      go_simp
      (try with_reducible rfl)
    (try simp only [List.getElem_toArray, List.getElem_cons_succ, List.getElem_cons_zero, Act.put, List.setIfInBounds_toArray, List.set_cons_zero, List.set_cons_succ])
    refine wpAnyH_take (i := 13) (v := ?_) rfl (by kernel_rfl) (by kernel_rfl) (by kernel_rfl) (fun _ _ _ h => h) (Or.inl ⟨by rfl, ?_⟩) (by assumption) ?_
    rotate_left
    · intro W hSw
      (try dsimp only at hSw)
      go_simp
      (try with_reducible rfl)
    (try simp only [List.getElem_toArray, List.getElem_cons_succ, List.getElem_cons_zero, Act.put, List.setIfInBounds_toArray, List.set_cons_zero, List.set_cons_succ])
    refine wpAnyH_ready (rs := [11, 14]) (by kernel_rfl) (by simp) ?_
    refine AllReadyH.cons (o := _) rfl (fun K hK => ?_) (AllReadyH.cons (o := _) rfl (fun K hK => ?_) AllReadyH.nil)
    · obtain ⟨w8, hst0, hR8, hG8, _⟩ := mem_store nm HL7.out rfl HX7.out HK7.out
      have hst : (Instr.storeAt 88 (.pointer (some ⟨g, xs.length * 5, none⟩)) (.agg #[.string nm, .int .i64 x.kind, .string x.text, .slice A2 x.list.length c2, .slice A3 x.mem.length c3])).run Tryz.prog w7 = .ok () w8 := hst0
      clear hst0
      refine step_store (by rfl) 88 (.tmp 17) (.tmp 13) (by rfl) _ _ (by rfl) (by rfl) hst ?_
      have HR8 := Lib.hid hR8
      have HB8 := Lib.hid (HR7.out.kept hG8 (fun e => HG7.out.1 (Option.some.inj e).symm))
      have HV8 := Lib.hid (HV7.out.kept hG8 (fun e => HG7.out.2.1 (Option.some.inj e).symm))
      have HW8 := Lib.hid (below_grown lim HLM.out HB7.out hG8 (Nat.le_trans HMD.out HG7.out.2.2))
      have HF8 := Lib.hid (Fr.grown HF7.out HZ7.out hG8 HN7.out)
      have HQ8 := Lib.hid hG8.size
      clear hR8 hG8 c7 f7 b7
      have b8 := HB8.out.lt
      have c8 : w8.cell? ⟨b, 16, none⟩ = some (.slice A xs.length c) := HB8.out.cell 16 _ rfl
      have f8 := HB8.out.frozen 16
      (try dsimp only)
      refine hK.out _ _ (val_cells HV8.out) (fun hHeld => ?_)
      clear hK K
      (try simp only [List.getElem_toArray, List.getElem_cons_succ, List.getElem_cons_zero, Act.put, List.setIfInBounds_toArray, List.set_cons_zero, List.set_cons_succ])
      refine wpAnyH_ready (rs := [14]) (by kernel_rfl) (by simp) ?_
      refine AllReadyH.cons (o := _) rfl (fun K hK => ?_) AllReadyH.nil
      go_simp
      refine hK.out _ _ (val_cells (HV8.out.far (by have := HLT.out; omega) _)) (fun hHeld => ?_)
      clear hK K
      (try simp only [List.getElem_toArray, List.getElem_cons_succ, List.getElem_cons_zero, Act.put, List.setIfInBounds_toArray, List.set_cons_zero, List.set_cons_succ])
      refine wpAnyH_done (by kernel_rfl) (NoPanic.normal ?_) _
      go_wp2_with fail
      go_ret
      exact ⟨rfl, _, Bu.make (Row.set16 HB8.out) (R_far16 HR8.out HB8.out _) HLB.out HMD.out (by rw [World.size_setCell]; exact Nat.le_trans HLO.out (Nat.le_trans HZ7.out HQ8.out)), below_set16 lim HW8.out HLB.out _, Fr.set HF8.out _⟩
    · have HB8 := Lib.hid (Row.set16 (v1 := .slice (some ⟨g, 0, none⟩) (xs.length + 1) cap) HR7.out)
      go_simp
      have HL8 := Lib.hid (R_far16 HL7.out HR7.out (.slice (some ⟨g, 0, none⟩) (xs.length + 1) cap))
      have HX8 := Lib.hid (M_far16 HX7.out HR7.out (.slice (some ⟨g, 0, none⟩) (xs.length + 1) cap))
      have HV8 := Lib.hid (HV7.out.far (c := b) (o := 16) (by have := HLT.out; omega) (.slice (some ⟨g, 0, none⟩) (xs.length + 1) cap))
      have HW8 := Lib.hid (below_set16 lim HB7.out HLB.out (.slice (some ⟨g, 0, none⟩) (xs.length + 1) cap))
      have HF8 := Lib.hid (Fr.set (o := 16) HF7.out (.slice (some ⟨g, 0, none⟩) (xs.length + 1) cap))
      have HZ8 : Hid (w.heap.size ≤ (w7.setCell ⟨b, 16, none⟩ (.slice (some ⟨g, 0, none⟩) (xs.length + 1) cap)).heap.size) := by show _ ≤ _; rw [World.size_setCell]; exact HZ7.out
      clear c7 f7 b7
      refine hK.out _ _ (val_cells HV8.out) (fun hHeld => ?_)
      clear hK K
      (try simp only [List.getElem_toArray, List.getElem_cons_succ, List.getElem_cons_zero, Act.put, List.setIfInBounds_toArray, List.set_cons_zero, List.set_cons_succ])
      generalize w7.setCell ⟨b, 16, none⟩ (.slice (some ⟨g, 0, none⟩) (xs.length + 1) cap) = w8 at *
      refine wpAnyH_ready (rs := [11]) (by kernel_rfl) (by simp) ?_
      refine AllReadyH.cons (o := _) rfl (fun K hK => ?_) AllReadyH.nil
      obtain ⟨w9, hst0, hR9, hG9, _⟩ := mem_store nm HL8.out rfl HX8.out (fun k hk => HK7.out k hk)
      have hst : (Instr.storeAt 88 (.pointer (some ⟨g, xs.length * 5, none⟩)) (.agg #[.string nm, .int .i64 x.kind, .string x.text, .slice A2 x.list.length c2, .slice A3 x.mem.length c3])).run Tryz.prog w8 = .ok () w9 := hst0
      clear hst0
      refine step_store (by rfl) 88 (.tmp 17) (.tmp 13) (by rfl) _ _ (by rfl) (by rfl) hst ?_
      have HB9 := Lib.hid (HB8.out.kept hG9 (fun e => HG7.out.1 (Option.some.inj e).symm))
      have HV9 := Lib.hid (HV8.out.kept hG9 (fun e => HG7.out.2.1 (Option.some.inj e).symm))
      have HW9 := Lib.hid (below_grown lim HLM.out HW8.out hG9 (Nat.le_trans HMD.out HG7.out.2.2))
      have HR9 := Lib.hid hR9
      have HF9 := Lib.hid (Fr.grown HF8.out HZ8.out hG9 HN7.out)
      have HQ9 := Lib.hid hG9.size
      clear hR9 hG9
      (try dsimp only)
      refine hK.out _ _ (val_cells HV9.out) (fun hHeld => ?_)
      clear hK K
      (try simp only [List.getElem_toArray, List.getElem_cons_succ, List.getElem_cons_zero, Act.put, List.setIfInBounds_toArray, List.set_cons_zero, List.set_cons_succ])
      refine wpAnyH_done (by kernel_rfl) (NoPanic.normal ?_) _
      go_wp2_with fail
      go_ret
      exact ⟨rfl, _, Bu.make HB9.out HR9.out HLB.out HMD.out (Nat.le_trans HLO.out (Nat.le_trans HZ8.out HQ9.out)), HW9.out, HF9.out⟩
end Go.Proofs.YtangheahliekeaaGreatDoor

