/- What the claim uses of the text L6. -/
import Derived.Test.YtangheahliekeaaGreatDoorVL5
set_option linter.unusedVariables false
set_option linter.unusedSimpArgs false
namespace Go.Proofs.YtangheahliekeaaGreatDoor
open Go.RowKit Go.PlainAid
open Go.Proofs.YtangheahliekeaaGreatDoorW.PrintWords hiding bt
open Go.Proofs.YtangheahliekeaaGreatDoorW.PrintMore

set_option maxHeartbeats 1000000 in
theorem Int_any (n : Nat) (h : n ≤ 9223372036854775807) (w : World) (hc : Caps w) : Calls Tryz.prog 38 #[.int .i64 n] w fun e w' => e = .returned (.agg #[.int .i64 3, .string (strOfNums (digs 10 n)), .slice none 0 0, .slice none 0 0]) ∧ Hid (Below w.heap.size w w') := by
  have HV0 : Hid (Row 34 w.heap.size (leafA 0 ⟨#[]⟩) (w.alloc (.cells (leafA 0 ⟨#[]⟩) 34))) := Row.new w _ _ rfl
  have HB0 : Hid (Below w.heap.size w (w.alloc (.cells (leafA 0 ⟨#[]⟩) 34))) := (Below.refl _ _).alloc (Nat.le_refl _) _
  have HT := Lib.hid (hc.below HB0.out)
  obtain ⟨t, Ht⟩ : ∃ t, Hid (strOfNums (digs 10 n) = t) := ⟨_, rfl⟩
  rw [Ht.out]
  have HC : Hid (Calls Tryz.prog 51 #[.int .i64 n] (w.alloc (.cells (leafA 0 ⟨#[]⟩) 34)) fun e w' => e = .returned (.string t) ∧ Hid (Below (w.alloc (.cells (leafA 0 ⟨#[]⟩) 34)).heap.size (w.alloc (.cells (leafA 0 ⟨#[]⟩) 34)) w')) := by
    have h1 := Itoa_any n h _ HT.out
    rw [Ht.out] at h1
    exact h1
  go_enter Tryz.func38, Tryz.ntmps38
  go_wp2_with (first | (go_at_call 51; refine HC.out.mono ?_; rintro e w1 ⟨rfl, hb1⟩; have HV1 := Lib.hid (HV0.out.below hb1.out); have HB1 := Lib.hid (below_then HB0.out HB0.out.size hb1.out); clear hb1) | ((with_reducible refine wpl_put_val (cs := ?_) HV1.out rfl ?hx ?hy ?hs ?hz ?_); (case hx => rfl); (case hy => rfl); (case hs => rfl); (case hz => (simp [Value.oneCell']; done)); intro w2 hr2 hw2))
  (try simp only [Exit.inBlock, Exit.then])
  have hb2 := hw2.below HB1.out (Nat.le_refl _)
  refine bodyPost_ret (v := .agg (leafA 3 t)) ?_ rfl ?_
  · exact results_val rfl _ _ _ _ rfl hr2 rfl
  · exact ⟨rfl, hb2⟩
theorem digs_1 : strOfNums (digs 10 1) = ⟨#[49]⟩ := by kernel_rfl
theorem digs_5 : strOfNums (digs 10 5) = ⟨#[53]⟩ := by kernel_rfl

theorem Int_one (w : World) (hc : Caps w) : Calls Tryz.prog 38 #[.int .i64 1] w fun e w' => e = .returned (.agg #[.int .i64 3, .string ⟨#[49]⟩, .slice none 0 0, .slice none 0 0]) ∧ Hid (Below w.heap.size w w') := by
  have h := Int_any 1 (by omega) w hc
  rw [digs_1] at h
  exact h
theorem Int_five (w : World) (hc : Caps w) : Calls Tryz.prog 38 #[.int .i64 5] w fun e w' => e = .returned (.agg #[.int .i64 3, .string ⟨#[53]⟩, .slice none 0 0, .slice none 0 0]) ∧ Hid (Below w.heap.size w w') := by
  have h := Int_any 5 (by omega) w hc
  rw [digs_5] at h
  exact h
/-- The record's cells. -/
def auA : Array Value := #[.string ⟨#[65]⟩, .string ⟨#[]⟩, .int .u32 1, .int .u32 5, .slice none 0 0, .slice none 0 0, .slice none 0 0]
/-- Where autnum's walk stands: wb is the world in which the library's tables are known. -/
structure Sa (E : Nat → Addr) (wb : World) (B m b : Nat) (base : ByteArray) (xs : List (ByteArray × JV)) (v : Value) (wi : World) : Prop where
  bu : Bu 3 wb.heap.size (B + 2) m b base xs v wi
  bel : Below wb.heap.size wb wi
  au : Row 55 B auA wi
  rs : Row 34 (B + 1) (leafA 0 ⟨#[]⟩) wi
  lt : b < B
theorem Sa.step {E : Nat → Addr} {wb : World} {B m b : Nat} {base : ByteArray} {xs : List (ByteArray × JV)} {v : Value} {wi w' : World} (h : Sa E wb B m b base xs v wi) (hb : Below wi.heap.size wi w') : Sa E wb B m b base xs v w' :=
  ⟨h.bu.below hb, below_then h.bel h.bel.size hb, h.au.below hb, h.rs.below hb, h.lt⟩
theorem Sa.put {E : Nat → Addr} {wb : World} {B m m' b : Nat} {base : ByteArray} {xs xs' : List (ByteArray × JV)} {v v' : Value} {wi w' : World} (h : Sa E wb B m b base xs v wi) (hU : Bu 3 wb.heap.size (B + 2) m' b base xs' v' w') (hb : Below wb.heap.size wi w') (hf : Fr b v wi w') : Sa E wb B m' b base xs' v' w' :=
  ⟨hU, h.bel.trans hb, hf.row h.bu h.au (by decide) (by have := h.lt; omega), hf.row h.bu h.rs (by decide) (by have := h.lt; omega), h.lt⟩
theorem Sa.cells {E : Nat → Addr} {wb : World} {B m b : Nat} {base : ByteArray} {xs : List (ByteArray × JV)} {v : Value} {wi : World} (h : Sa E wb B m b base xs v wi) :
    wi.cell? ⟨B, 0, none⟩ = some (.string ⟨#[65]⟩) ∧ wi.cell? ⟨B, 1, none⟩ = some (.string ⟨#[]⟩) ∧ wi.cell? ⟨B, 2, none⟩ = some (.int .u32 1) ∧ wi.cell? ⟨B, 3, none⟩ = some (.int .u32 5) ∧ wi.cell? ⟨B, 4, none⟩ = some (.slice none 0 0) ∧ wi.cell? ⟨B, 5, none⟩ = some (.slice none 0 0) ∧ wi.cell? ⟨B, 6, none⟩ = some (.slice none 0 0) :=
  ⟨h.au.cell 0 _ rfl, h.au.cell 1 _ rfl, h.au.cell 2 _ rfl, h.au.cell 3 _ rfl, h.au.cell 4 _ rfl, h.au.cell 5 _ rfl, h.au.cell 6 _ rfl⟩
/-- The record's question. -/
def q6 : QV := ⟨6, 0, ⟨#[]⟩, ⟨false, fun _ => 0, 0⟩, 1, false, []⟩
theorem q6_ok : qOk q6 = true := by decide +kernel
theorem q6_fine {E : Nat → Addr} {w : World} (hg : Ges E w) (hc : Caps w) : Fine E q6 none w := ⟨hg, hc, fun i hi => (by show 0 < 256; omega), by decide, fun x hx => (by cases hx), by decide, by decide, Kd.C_nil pk w⟩

set_option maxHeartbeats 8000000 in
set_option maxRecDepth 100000 in
theorem autnum_awake {E : Nat → Addr} {lo m b : Nat} {base : ByteArray} (wb w : World) (hg : Ges E wb) (hc : Caps wb) (hB : Bu 3 wb.heap.size lo m b base [] (.slice none 0 0) w) (hbel : Below wb.heap.size wb w) (hbs : base.size ≤ 1000) (at_ : ByteArray) (hat : at_ = base ++ (⟨#[97, 117, 116, 110, 117, 109, 47]⟩ ++ strOfNums (digs 10 q6.num.toNat))) :
    Calls Tryz.prog 20 #[.pointer (some ⟨b, 0, none⟩), .agg auA] w fun e w' => ∃ v1, e = .returned (.agg #[.int .i64 6, .string ⟨#[]⟩, .slice none 0 0, v1]) ∧ Hid ((jd 4).M w' wb.heap.size (fun k => wb.heap.size ≤ k) ⟨6, ⟨#[]⟩, [], [(⟨#[111, 98, 106, 101, 99, 116, 67, 108, 97, 115, 115, 78, 97, 109, 101]⟩, ⟨4, ⟨#[97, 117, 116, 110, 117, 109]⟩, [], []⟩)] ++ [(⟨#[104, 97, 110, 100, 108, 101]⟩, ⟨4, ⟨#[65]⟩, [], []⟩), (⟨#[115, 116, 97, 114, 116, 65, 117, 116, 110, 117, 109]⟩, ⟨3, ⟨#[49]⟩, [], []⟩), (⟨#[101, 110, 100, 65, 117, 116, 110, 117, 109]⟩, ⟨3, ⟨#[53]⟩, [], []⟩)] ++ [(⟨#[108, 105, 110, 107, 115]⟩, ⟨5, ⟨#[]⟩, [⟨6, ⟨#[]⟩, [], lnk at_⟩], []⟩)]⟩ [.int .i64 6, .string ⟨#[]⟩, .slice none 0 0, v1]) ∧ Hid (Below wb.heap.size wb w') := by
  obtain ⟨wa, hwa⟩ : ∃ wa, wa = (w.alloc (.cells auA 55)).alloc (.cells (leafA 0 ⟨#[]⟩) 34) := ⟨_, rfl⟩
  have hba : Below w.heap.size w wa := by rw [hwa]; exact ((Below.refl _ _).alloc (Nat.le_refl _) _).alloc (by simp) _
  have HS : Hid (Sa E wb w.heap.size m b base [] (.slice none 0 0) wa) := by
    refine ⟨⟨(hB.below hba).row, Kd.R_nil _ _ _ _ _, hB.low, by have := hbel.size; omega, (hB.below hba).top, by rw [hwa]; simp⟩, below_then hbel hbel.size hba, ?_, ?_, hB.lt⟩
    · rw [hwa]; exact (Row.new w _ _ rfl).old _
    · rw [hwa]; exact Row.new _ _ _ (by simp)
  have HG := Lib.hid hg
  have HC := Lib.hid hc
  have HBS := Lib.hid hbs
  have HAT := Lib.hid hat
  clear hB hbel hba hg hc hbs hat
  go_enter Tryz.func20, Tryz.ntmps20
  go_upto_region 1 with (fail)
  change Code.wp _ _ _ _ ((w.alloc (.cells auA 55)).alloc (.cells (leafA 0 ⟨#[]⟩) 34))
  rw [← hwa]
  clear hwa
  have HSd := Lib.hid (HS.out.step (below_drew (Below.refl _ _)))
  refine wp_region_noPanic ?_
  refine wp_region_held_drew (S := (fun W => W.cell? ⟨w.heap.size, 0, none⟩ = some (.string ⟨#[65]⟩) ∧ W.cell? ⟨w.heap.size, 1, none⟩ = some (.string ⟨#[]⟩) ∧ W.cell? ⟨w.heap.size, 2, none⟩ = some (.int .u32 1) ∧ W.cell? ⟨w.heap.size, 3, none⟩ = some (.int .u32 5) ∧ W.cell? ⟨w.heap.size, 4, none⟩ = some (.slice none 0 0) ∧ W.cell? ⟨w.heap.size, 5, none⟩ = some (.slice none 0 0) ∧ W.cell? ⟨w.heap.size, 6, none⟩ = some (.slice none 0 0))) (by kernel_rfl) ?_ (fun hHeld => ?_)
  · exact HS.out.cells
  clear HS
  refine wpAnyH_take (i := 0) (v := ?_) rfl (by kernel_rfl) (by kernel_rfl) (by kernel_rfl) (fun _ _ _ h => h) (Or.inl ⟨by rfl, ?_⟩) (by assumption) ?_
  rotate_left
  · intro W hSw
    (try dsimp only at hSw)
    go_simp
    (try with_reducible rfl)
  (try simp only [List.getElem_toArray, List.getElem_cons_succ, List.getElem_cons_zero, Act.put, List.setIfInBounds_toArray, List.set_cons_zero, List.set_cons_succ])
  refine wpAnyH_take (i := 2) (v := ?_) rfl (by kernel_rfl) (by kernel_rfl) (by kernel_rfl) (fun _ _ _ h => h) (Or.inl ⟨by rfl, ?_⟩) (by assumption) ?_
  rotate_left
  · intro W hSw
    (try dsimp only at hSw)
    go_simp
    (try with_reducible rfl)
  (try simp only [List.getElem_toArray, List.getElem_cons_succ, List.getElem_cons_zero, Act.put, List.setIfInBounds_toArray, List.set_cons_zero, List.set_cons_succ])
  refine wpAnyH_take (i := 3) (v := ?_) rfl (by kernel_rfl) (by kernel_rfl) (by kernel_rfl) (fun _ _ _ h => h) (Or.inl ⟨by rfl, ?_⟩) (by assumption) ?_
  rotate_left
  · intro W hSw
    (try dsimp only at hSw)
    go_simp
    (try with_reducible rfl)
  (try simp only [List.getElem_toArray, List.getElem_cons_succ, List.getElem_cons_zero, Act.put, List.setIfInBounds_toArray, List.set_cons_zero, List.set_cons_succ])
  refine wpAnyH_ready (rs := [1]) (by kernel_rfl) (by simp) ?_
  refine AllReadyH.cons (o := _) rfl (fun K hK => ?_) AllReadyH.nil
  go_simp
  go_at_call 25
  refine (text_any (n := 2) ⟨#[111, 98, 106, 101, 99, 116, 67, 108, 97, 115, 115, 78, 97, 109, 101]⟩ ⟨#[97, 117, 116, 110, 117, 109]⟩ _ HSd.out.bu (by simp)).mono ?_
  rintro e w1 ⟨rfl, v1, hU, hb, hf⟩
  have HS1 := Lib.hid (Sa.put HSd.out hU.out hb.out hf.out)
  clear hU hb hf
  (try dsimp only)
  refine hK.out _ _ HS1.out.cells (fun hHeld => ?_)
  clear hK K hHeld HSd
  (try simp only [List.getElem_toArray, List.getElem_cons_succ, List.getElem_cons_zero, Act.put, List.setIfInBounds_toArray, List.set_cons_zero, List.set_cons_succ])
  refine wpAnyH_ready (rs := [4]) (by kernel_rfl) (by simp) ?_
  refine AllReadyH.cons (o := _) rfl (fun K hK => ?_) AllReadyH.nil
  go_simp
  go_at_call 25
  refine (text_any (n := 2) ⟨#[104, 97, 110, 100, 108, 101]⟩ ⟨#[65]⟩ _ HS1.out.bu (by simp)).mono ?_
  rintro e w2 ⟨rfl, v2, hU, hb, hf⟩
  have HS2 := Lib.hid (Sa.put HS1.out hU.out hb.out hf.out)
  clear hU hb hf
  (try dsimp only)
  refine hK.out _ _ HS2.out.cells (fun hHeld => ?_)
  clear hK K hHeld HS1
  (try simp only [List.getElem_toArray, List.getElem_cons_succ, List.getElem_cons_zero, Act.put, List.setIfInBounds_toArray, List.set_cons_zero, List.set_cons_succ])
  refine wpAnyH_done (by kernel_rfl) (NoPanic.normal ?_) _
  go_upto_region 2 with (fail)
  have HSd := Lib.hid (HS2.out.step (below_drew (Below.refl _ _)))
  refine wp_region_noPanic ?_
  refine wp_region_held_drew (S := (fun W => W.cell? ⟨w.heap.size, 0, none⟩ = some (.string ⟨#[65]⟩) ∧ W.cell? ⟨w.heap.size, 1, none⟩ = some (.string ⟨#[]⟩) ∧ W.cell? ⟨w.heap.size, 2, none⟩ = some (.int .u32 1) ∧ W.cell? ⟨w.heap.size, 3, none⟩ = some (.int .u32 5) ∧ W.cell? ⟨w.heap.size, 4, none⟩ = some (.slice none 0 0) ∧ W.cell? ⟨w.heap.size, 5, none⟩ = some (.slice none 0 0) ∧ W.cell? ⟨w.heap.size, 6, none⟩ = some (.slice none 0 0))) (by kernel_rfl) ?_ (fun hHeld => ?_)
  · exact HS2.out.cells
  clear HS2
  refine wpAnyH_take (i := 0) (v := ?_) rfl (by kernel_rfl) (by kernel_rfl) (by kernel_rfl) (fun _ _ _ h => h) (Or.inl ⟨by rfl, ?_⟩) (by assumption) ?_
  rotate_left
  · intro W hSw
    (try dsimp only at hSw)
    go_simp
    (try with_reducible rfl)
  (try simp only [List.getElem_toArray, List.getElem_cons_succ, List.getElem_cons_zero, Act.put, List.setIfInBounds_toArray, List.set_cons_zero, List.set_cons_succ])
  refine wpAnyH_take (i := 1) (v := ?_) rfl (by kernel_rfl) (by kernel_rfl) (by kernel_rfl) (fun _ _ _ h => h) (Or.inl ⟨by rfl, ?_⟩) (by assumption) ?_
  rotate_left
  · intro W hSw
    (try dsimp only at hSw)
    go_simp
    (try with_reducible rfl)
  (try simp only [List.getElem_toArray, List.getElem_cons_succ, List.getElem_cons_zero, Act.put, List.setIfInBounds_toArray, List.set_cons_zero, List.set_cons_succ])
  refine wpAnyH_take (i := 2) (v := ?_) rfl (by kernel_rfl) (by kernel_rfl) (by kernel_rfl) (fun _ _ _ h => h) (Or.inl ⟨by rfl, ?_⟩) (by assumption) ?_
  rotate_left
  · intro W hSw
    (try dsimp only at hSw)
    go_simp
    (try with_reducible rfl)
  (try simp only [List.getElem_toArray, List.getElem_cons_succ, List.getElem_cons_zero, Act.put, List.setIfInBounds_toArray, List.set_cons_zero, List.set_cons_succ])
  refine wpAnyH_take (i := 3) (v := ?_) rfl (by kernel_rfl) (by kernel_rfl) (by kernel_rfl) (fun _ _ _ h => h) (Or.inl ⟨by rfl, ?_⟩) (by assumption) ?_
  rotate_left
  · intro W hSw
    (try dsimp only at hSw)
    go_simp
    (try with_reducible rfl)
  (try simp only [List.getElem_toArray, List.getElem_cons_succ, List.getElem_cons_zero, Act.put, List.setIfInBounds_toArray, List.set_cons_zero, List.set_cons_succ])
  refine wpAnyH_take (i := 4) (v := ?_) rfl (by kernel_rfl) (by kernel_rfl) (by kernel_rfl) (fun _ _ _ h => h) (Or.inl ⟨by rfl, ?_⟩) (by assumption) ?_
  rotate_left
  · intro W hSw
    (try dsimp only at hSw)
    go_simp
    (try with_reducible rfl)
  (try simp only [List.getElem_toArray, List.getElem_cons_succ, List.getElem_cons_zero, Act.put, List.setIfInBounds_toArray, List.set_cons_zero, List.set_cons_succ])
  refine wpAnyH_take (i := 7) (v := ?_) rfl (by kernel_rfl) (by kernel_rfl) (by kernel_rfl) (fun _ _ _ h => h) (Or.inl ⟨by rfl, ?_⟩) (by assumption) ?_
  rotate_left
  · intro W hSw
    (try dsimp only at hSw)
    go_simp
    (try with_reducible rfl)
  (try simp only [List.getElem_toArray, List.getElem_cons_succ, List.getElem_cons_zero, Act.put, List.setIfInBounds_toArray, List.set_cons_zero, List.set_cons_succ])
  refine wpAnyH_take (i := 8) (v := ?_) rfl (by kernel_rfl) (by kernel_rfl) (by kernel_rfl) (fun _ _ _ h => h) (Or.inl ⟨by rfl, ?_⟩) (by assumption) ?_
  rotate_left
  · intro W hSw
    (try dsimp only at hSw)
    go_simp
    (try with_reducible rfl)
  (try simp only [List.getElem_toArray, List.getElem_cons_succ, List.getElem_cons_zero, Act.put, List.setIfInBounds_toArray, List.set_cons_zero, List.set_cons_succ])
  refine wpAnyH_take (i := 9) (v := ?_) rfl (by kernel_rfl) (by kernel_rfl) (by kernel_rfl) (fun _ _ _ h => h) (Or.inl ⟨by rfl, ?_⟩) (by assumption) ?_
  rotate_left
  · intro W hSw
    (try dsimp only at hSw)
    go_simp
    (try with_reducible rfl)
  (try simp only [List.getElem_toArray, List.getElem_cons_succ, List.getElem_cons_zero, Act.put, List.setIfInBounds_toArray, List.set_cons_zero, List.set_cons_succ])
  refine wpAnyH_take (i := 10) (v := ?_) rfl (by kernel_rfl) (by kernel_rfl) (by kernel_rfl) (fun _ _ _ h => h) (Or.inl ⟨by rfl, ?_⟩) (by assumption) ?_
  rotate_left
  · intro W hSw
    (try dsimp only at hSw)
    go_simp
    (try with_reducible rfl)
  (try simp only [List.getElem_toArray, List.getElem_cons_succ, List.getElem_cons_zero, Act.put, List.setIfInBounds_toArray, List.set_cons_zero, List.set_cons_succ])
  refine wpAnyH_take (i := 13) (v := ?_) rfl (by kernel_rfl) (by kernel_rfl) (by kernel_rfl) (fun _ _ _ h => h) (Or.inl ⟨by rfl, ?_⟩) (by assumption) ?_
  rotate_left
  · intro W hSw
    (try dsimp only at hSw)
    go_simp
    (try with_reducible rfl)
  (try simp only [List.getElem_toArray, List.getElem_cons_succ, List.getElem_cons_zero, Act.put, List.setIfInBounds_toArray, List.set_cons_zero, List.set_cons_succ])
  refine wpAnyH_take (i := 14) (v := ?_) rfl (by kernel_rfl) (by kernel_rfl) (by kernel_rfl) (fun _ _ _ h => h) (Or.inl ⟨by rfl, ?_⟩) (by assumption) ?_
  rotate_left
  · intro W hSw
    (try dsimp only at hSw)
    go_simp
    (try with_reducible rfl)
  (try simp only [List.getElem_toArray, List.getElem_cons_succ, List.getElem_cons_zero, Act.put, List.setIfInBounds_toArray, List.set_cons_zero, List.set_cons_succ])
  refine wpAnyH_ready (rs := [5]) (by kernel_rfl) (by simp) ?_
  refine AllReadyH.cons (o := _) rfl (fun K hK => ?_) AllReadyH.nil
  go_simp
  go_at_call 38
  refine (Int_one _ (HC.out.below HSd.out.bel)).mono ?_
  rintro e w3 ⟨rfl, hb⟩
  have HS3 := Lib.hid (HSd.out.step hb.out)
  clear hb
  (try dsimp only)
  refine hK.out _ _ HS3.out.cells (fun hHeld => ?_)
  clear hK K hHeld HSd
  (try simp only [List.getElem_toArray, List.getElem_cons_succ, List.getElem_cons_zero, Act.put, List.setIfInBounds_toArray, List.set_cons_zero, List.set_cons_succ])
  refine wpAnyH_ready (rs := [6]) (by kernel_rfl) (by simp) ?_
  refine AllReadyH.cons (o := _) rfl (fun K hK => ?_) AllReadyH.nil
  go_simp
  go_at_call 26
  refine (put_any ⟨#[115, 116, 97, 114, 116, 65, 117, 116, 110, 117, 109]⟩ ⟨3, ⟨#[49]⟩, [], []⟩ [.int .i64 3, .string ⟨#[49]⟩, .slice none 0 0, .slice none 0 0] (fun _ => False) _ HS3.out.bu (jd_leafM 2 _ _ _ 3 _) (fun _ h => h.elim) (by simp)).mono ?_
  rintro e w4 ⟨rfl, v4, hU, hb, hf⟩
  have HS4 := Lib.hid (Sa.put HS3.out hU.out hb.out hf.out)
  clear hU hb hf
  (try dsimp only)
  refine hK.out _ _ HS4.out.cells (fun hHeld => ?_)
  clear hK K hHeld HS3
  (try simp only [List.getElem_toArray, List.getElem_cons_succ, List.getElem_cons_zero, Act.put, List.setIfInBounds_toArray, List.set_cons_zero, List.set_cons_succ])
  refine wpAnyH_ready (rs := [11]) (by kernel_rfl) (by simp) ?_
  refine AllReadyH.cons (o := _) rfl (fun K hK => ?_) AllReadyH.nil
  go_simp
  go_at_call 38
  refine (Int_five _ (HC.out.below HS4.out.bel)).mono ?_
  rintro e w5 ⟨rfl, hb⟩
  have HS5 := Lib.hid (HS4.out.step hb.out)
  clear hb
  (try dsimp only)
  refine hK.out _ _ HS5.out.cells (fun hHeld => ?_)
  clear hK K hHeld HS4
  (try simp only [List.getElem_toArray, List.getElem_cons_succ, List.getElem_cons_zero, Act.put, List.setIfInBounds_toArray, List.set_cons_zero, List.set_cons_succ])
  refine wpAnyH_ready (rs := [12]) (by kernel_rfl) (by simp) ?_
  refine AllReadyH.cons (o := _) rfl (fun K hK => ?_) AllReadyH.nil
  go_simp
  go_at_call 26
  refine (put_any ⟨#[101, 110, 100, 65, 117, 116, 110, 117, 109]⟩ ⟨3, ⟨#[53]⟩, [], []⟩ [.int .i64 3, .string ⟨#[53]⟩, .slice none 0 0, .slice none 0 0] (fun _ => False) _ HS5.out.bu (jd_leafM 2 _ _ _ 3 _) (fun _ h => h.elim) (by simp)).mono ?_
  rintro e w6 ⟨rfl, v6, hU, hb, hf⟩
  have HS6 := Lib.hid (Sa.put HS5.out hU.out hb.out hf.out)
  clear hU hb hf
  (try dsimp only)
  refine hK.out _ _ HS6.out.cells (fun hHeld => ?_)
  clear hK K hHeld HS5
  (try simp only [List.getElem_toArray, List.getElem_cons_succ, List.getElem_cons_zero, Act.put, List.setIfInBounds_toArray, List.set_cons_zero, List.set_cons_succ])
  refine wpAnyH_ready (rs := [15]) (by kernel_rfl) (by simp) ?_
  refine AllReadyH.cons (o := _) rfl (fun K hK => ?_) AllReadyH.nil
  go_simp
  go_at_call 37
  refine (given_none _ _ _).mono ?_
  rintro e w7 ⟨rfl, hb⟩
  have HS7 := Lib.hid (HS6.out.step hb.out)
  clear hb
  (try dsimp only)
  refine hK.out _ _ HS7.out.cells (fun hHeld => ?_)
  clear hK K hHeld HS6
  (try simp only [List.getElem_toArray, List.getElem_cons_succ, List.getElem_cons_zero, Act.put, List.setIfInBounds_toArray, List.set_cons_zero, List.set_cons_succ])
  refine wpAnyH_done (by kernel_rfl) (NoPanic.normal ?_) _
  have cs := HS7.out.cells
  obtain ⟨c0, c1, c2, c3, c4, c5, c6⟩ := cs
  go_wp2_with fail
  refine (common_none (E := E) q6 _ HS7.out.bu (by simp) HBS.out (q6_fine (HG.out.below HS7.out.bel) (HC.out.below HS7.out.bel)) rfl q6_ok at_ HAT.out).mono ?_
  rintro e w20 ⟨rfl, v20, hU, hb, hf⟩
  have HS20 := Lib.hid (Sa.put HS7.out hU.out hb.out hf.out)
  clear hU hb hf c0 c1 c2 c3 c4 c5 c6 HS7
  go_wp2_with fail
  refine (value_own _ HS20.out.bu (by simp)).mono ?_
  rintro e w21 ⟨v21, rfl, hR, hb⟩
  have HS21 := Lib.hid (HS20.out.step hb.out)
  have HO := Lib.hid (jd_objM hR.out)
  obtain ⟨A21, c21, rfl⟩ := Kd.R_slice hR.out
  have HTP := Lib.hid HS20.out.bu.top
  clear hb hR
  have hbB := HS21.out.bu.mid
  have hbs20 := HS20.out.bu.bas
  have HBS20 := Lib.hid hbs20
  have HBB := Lib.hid hbB
  clear hbs20 hbB
  go_wp2_with ((with_reducible refine wpl_put_val (cs := ?_) HS21.out.rs rfl ?hx ?hy ?hs ?hz ?_); (case hx => rfl); (case hy => rfl); (case hs => rfl); (case hz => (simp [Value.oneCell']; done)); intro w22 hr22 hw22)
  (try simp only [Exit.inBlock, Exit.then])
  have hb22 := hw22.below HS21.out.bel (by have := HS21.out.bu.low; have := HS21.out.lt; omega)
  have hM := Kd.M_step HO.out (w1 := w22) (fun k hk _ => hw22.rest k (by
    have := HBS20.out
    rcases hk with hk | hk
    · omega
    · omega))
  refine bodyPost_ret (results_val rfl _ _ _ _ rfl hr22 rfl) rfl ?_
  exact ⟨_, rfl, (jd 4).M_lower HBB.out ((jd 4).M_mono (fun k hk => Nat.le_trans HBB.out hk.2.1) ((jd 4).M_bound hM)), hb22⟩
end Go.Proofs.YtangheahliekeaaGreatDoor

