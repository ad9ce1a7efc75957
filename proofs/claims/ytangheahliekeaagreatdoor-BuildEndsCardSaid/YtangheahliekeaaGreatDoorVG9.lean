/- What the claim uses of the text G9. -/
import Derived.Test.YtangheahliekeaaGreatDoorVG5
import Derived.Test.YtangheahliekeaaGreatDoorVG8
set_option linter.unusedVariables false
set_option linter.unusedSimpArgs false
namespace Go.Proofs.YtangheahliekeaaGreatDoor
open Go.RowKit Go.PlainAid
open Go.Proofs.YtangheahliekeaaGreatDoorW.PrintWords hiding bt
open Go.Proofs.YtangheahliekeaaGreatDoorW.PrintMore

theorem QAt.cells {b : Nat} {q : QV} {A : Option Addr} {c : Nat} {w : World} (h : QAt b q A c w) : w.cell? ⟨b, 0, none⟩ = some (.int .i64 q.kind) ∧ w.cell? ⟨b, 1, none⟩ = some (.int .i64 q.by_) ∧ w.cell? ⟨b, 2, none⟩ = some (.string q.name) ∧ w.cell? ⟨b, 3, none⟩ = some (.bool q.net.six) ∧ w.cell? ⟨b, 4, none⟩ = some (.int .u8 (q.net.addr 0 : Nat)) ∧ w.cell? ⟨b, 5, none⟩ = some (.int .u8 (q.net.addr 1 : Nat)) ∧ w.cell? ⟨b, 6, none⟩ = some (.int .u8 (q.net.addr 2 : Nat)) ∧ w.cell? ⟨b, 7, none⟩ = some (.int .u8 (q.net.addr 3 : Nat)) ∧ w.cell? ⟨b, 8, none⟩ = some (.int .u8 (q.net.addr 4 : Nat)) ∧ w.cell? ⟨b, 9, none⟩ = some (.int .u8 (q.net.addr 5 : Nat)) ∧ w.cell? ⟨b, 10, none⟩ = some (.int .u8 (q.net.addr 6 : Nat)) ∧ w.cell? ⟨b, 11, none⟩ = some (.int .u8 (q.net.addr 7 : Nat)) ∧ w.cell? ⟨b, 12, none⟩ = some (.int .u8 (q.net.addr 8 : Nat)) ∧ w.cell? ⟨b, 13, none⟩ = some (.int .u8 (q.net.addr 9 : Nat)) ∧ w.cell? ⟨b, 14, none⟩ = some (.int .u8 (q.net.addr 10 : Nat)) ∧ w.cell? ⟨b, 15, none⟩ = some (.int .u8 (q.net.addr 11 : Nat)) ∧ w.cell? ⟨b, 16, none⟩ = some (.int .u8 (q.net.addr 12 : Nat)) ∧ w.cell? ⟨b, 17, none⟩ = some (.int .u8 (q.net.addr 13 : Nat)) ∧ w.cell? ⟨b, 18, none⟩ = some (.int .u8 (q.net.addr 14 : Nat)) ∧ w.cell? ⟨b, 19, none⟩ = some (.int .u8 (q.net.addr 15 : Nat)) ∧ w.cell? ⟨b, 20, none⟩ = some (.int .i64 q.net.bits) ∧ w.cell? ⟨b, 21, none⟩ = some (.int .u32 q.num) ∧ w.cell? ⟨b, 22, none⟩ = some (.bool q.whole) ∧ w.cell? ⟨b, 23, none⟩ = some (.slice A q.pieces.length c) :=
  ⟨h.kind, h.by_, h.name, h.net 0 _ (preA_six _), h.net 1 _ (preA_addr _ 0 (by omega)), h.net 2 _ (preA_addr _ 1 (by omega)), h.net 3 _ (preA_addr _ 2 (by omega)), h.net 4 _ (preA_addr _ 3 (by omega)), h.net 5 _ (preA_addr _ 4 (by omega)), h.net 6 _ (preA_addr _ 5 (by omega)), h.net 7 _ (preA_addr _ 6 (by omega)), h.net 8 _ (preA_addr _ 7 (by omega)), h.net 9 _ (preA_addr _ 8 (by omega)), h.net 10 _ (preA_addr _ 9 (by omega)), h.net 11 _ (preA_addr _ 10 (by omega)), h.net 12 _ (preA_addr _ 11 (by omega)), h.net 13 _ (preA_addr _ 12 (by omega)), h.net 14 _ (preA_addr _ 13 (by omega)), h.net 15 _ (preA_addr _ 14 (by omega)), h.net 16 _ (preA_addr _ 15 (by omega)), h.bits, h.num, h.whole, h.pieces⟩
/-- A fault, and the return. -/
theorem qOk_by {q : QV} (h : byOk q.kind q.by_ = false) : qOk q = false := by unfold qOk; rw [h]; simp
theorem qOk_low {q : QV} (h : q.kind < 1) : qOk q = false := by unfold qOk; rw [decide_eq_false (show ¬ 1 ≤ q.kind by omega)]; rfl
theorem qOk_high {q : QV} (h : 9 < q.kind) : qOk q = false := by unfold qOk; rw [decide_eq_false (show ¬ q.kind ≤ 9 by omega)]; simp
theorem qOk_net {q : QV} (h1 : 1 ≤ q.kind) (h9 : q.kind ≤ 9) (hb : byOk q.kind q.by_ = true) (h : q.kind = 5) : qOk q = ipOk q.net := by unfold qOk; rw [decide_eq_true h1, decide_eq_true h9, hb, if_pos h]; rfl
theorem qOk_ip {q : QV} (h1 : 1 ≤ q.kind) (h9 : q.kind ≤ 9) (hb : byOk q.kind q.by_ = true) (h : ¬ q.kind = 5) (hm : manyQ q.kind = true) (h3 : q.by_ = 3) : qOk q = (ipOk q.net && decide (q.net.bits = widthV q.net)) := by
  unfold qOk; rw [decide_eq_true h1, decide_eq_true h9, hb, if_neg h, if_pos ⟨hm, h3⟩]; rfl
theorem qOk_many {q : QV} (h1 : 1 ≤ q.kind) (h9 : q.kind ≤ 9) (hb : byOk q.kind q.by_ = true) (h : ¬ q.kind = 5) (hm : manyQ q.kind = true) (h3 : ¬ q.by_ = 3) : qOk q = ((q.whole == decide (q.kind = 9)) && (!(decide (q.kind = 9)) || decide (q.pieces.length = 1))) := by
  unfold qOk; rw [decide_eq_true h1, decide_eq_true h9, hb, if_neg h, if_neg (fun x => h3 x.2), if_pos hm]; rfl
theorem qOk_one {q : QV} (h1 : 1 ≤ q.kind) (h9 : q.kind ≤ 9) (hb : byOk q.kind q.by_ = true) (h : ¬ q.kind = 5) (hm : manyQ q.kind = false) : qOk q = true := by
  unfold qOk; rw [decide_eq_true h1, decide_eq_true h9, hb, if_neg h, if_neg (fun x => by rw [hm] at x; cases x.1), if_neg (by rw [hm]; simp)]; rfl

set_option maxHeartbeats 8000000 in
set_option maxRecDepth 100000 in
theorem find_Check_any {E : Nat → Addr} (q : QV) (hp : ∀ i, i < 16 → q.net.addr i < 256) (A : Option Addr) (c : Nat) (w : World) (hs : Ges E w) (hn : q.pieces.length ≤ 9223372036854775807) :
    Calls Tryz.prog 59 #[.agg (qryA q A c)] w (NilOr (qOk q) w) := by
  have H : Hid (QAt w.heap.size q A c (w.alloc (.cells (qryA q A c) 100))) := Row.new w _ _ rfl
  have HB : Hid (Below w.heap.size w (w.alloc (.cells (qryA q A c) 100))) := (Below.refl _ _).alloc (Nat.le_refl _) _
  have HS := Lib.hid (hs.below HB.out)
  have HP := Lib.hid hp
  clear hs hp
  go_enter Tryz.func59, Tryz.ntmps59
  go_upto_region 1 with (fail)
  generalize w.alloc (.cells (qryA q A c) 100) = w0 at *
  have g17 := HS.out.c17
  have c0 := H.out.kind
  by_cases h1 : q.kind < 1
  · have d1 : decide (q.kind < 1) = true := decide_eq_true h1
    have HO := Lib.hid (qOk_low h1)
    go_wp2_with fail
    refine (find_fault_any (E 17) _).mono ?_
    rintro e w2 ⟨⟨p, rfl⟩, h2⟩
    have HB2 := Lib.hid (below_then HB.out HB.out.size h2.out)
    clear c0
    go_wp2_with fail
    go_ret
    exact NilOr.bad HO.out HB2.out
  have d1 : decide (q.kind < 1) = false := decide_eq_false h1
  by_cases h9 : 9 < q.kind
  · have d9 : decide (9 < q.kind) = true := decide_eq_true h9
    have HO := Lib.hid (qOk_high h9)
    go_wp2_with fail
    refine (find_fault_any (E 17) _).mono ?_
    rintro e w2 ⟨⟨p, rfl⟩, h2⟩
    have HB2 := Lib.hid (below_then HB.out HB.out.size h2.out)
    clear c0
    go_wp2_with fail
    go_ret
    exact NilOr.bad HO.out HB2.out
  have d9 : decide (9 < q.kind) = false := decide_eq_false h9
  have HK : Hid (1 ≤ q.kind ∧ q.kind ≤ 9) := by show _ ∧ _; omega
  clear h1 h9
  go_wp2_with (first | ((with_reducible refine wpl_load_qryG H.out rfl rfl ?hx ?_); (case hx => rfl)))
  refine (by_any q A c _).mono ?_
  rintro e w1 ⟨rfl, hb1⟩
  have HB1 := Lib.hid (below_then HB.out HB.out.size hb1.out)
  have H1 := Lib.hid (H.out.below hb1.out)
  have HS1 := Lib.hid (HS.out.below hb1.out)
  clear c0
  clear hb1 d1 d9 H HB HS g17
  obtain ⟨z, hz⟩ : ∃ z, byOk q.kind q.by_ = z := ⟨_, rfl⟩
  rw [hz]
  have HY := Lib.hid hz
  clear hz
  have g17 := HS1.out.c17
  have g4 := HS1.out.c4
  have g5 := HS1.out.c5
  cases z with
  | false =>
    have HO := Lib.hid (qOk_by HY.out)
    go_wp2_with fail
    refine (find_fault_any (E 17) _).mono ?_
    rintro e w2 ⟨⟨p, rfl⟩, h2⟩
    have HB2 := Lib.hid (below_then HB1.out HB1.out.size h2.out)
    go_wp2_with fail
    go_ret
    exact NilOr.bad HO.out HB2.out
  | true =>
  have c0 := H1.out.kind
  by_cases h5 : q.kind = 5
  · have e5 : (q.kind == 5) = true := by simpa using h5
    have HO := Lib.hid (qOk_net HK.out.1 HK.out.2 HY.out h5)
    clear h5
    go_wp2_with (first | ((with_reducible refine wpl_load_net H1.out ?hx ?_); (case hx => rfl)))
    refine (ip_Check_any (E := E) q.net HP.out _ HS1.out).mono ?_
    rintro e w2 ⟨⟨ho, rfl⟩ | ⟨ho, p, rfl⟩, h2⟩
    · have HO2 : Hid (qOk q = true) := HO.out.trans ho
      have HB2 := Lib.hid (below_then HB1.out HB1.out.size h2.out)
      clear c0
      go_wp2_with fail
      go_ret
      exact NilOr.good HO2.out HB2.out
    · have HO2 : Hid (qOk q = false) := HO.out.trans ho
      have HB2 := Lib.hid (below_then HB1.out HB1.out.size h2.out)
      have HS2 := Lib.hid (HS1.out.below h2.out)
      have g42 := HS2.out.c4
      clear c0
      clear g4 g5 g17
      go_wp2_with fail
      refine (find_fault_any (E 4) _).mono ?_
      rintro e w3 ⟨⟨p2, rfl⟩, h3⟩
      have HB3 := Lib.hid (below_then HB2.out HB2.out.size h3.out)
      go_wp2_with fail
      go_ret
      exact NilOr.bad HO2.out HB3.out
  have e5 : (q.kind == 5) = false := by rw [beq_eq_false_iff_ne]; exact h5
  have H5 := Lib.hid h5
  clear h5
  go_wp2_with (first | ((with_reducible refine wpl_load_qry H1.out ?hx ?_); (case hx => rfl)))
  refine (Many_any q A c _).mono ?_
  rintro e w2 ⟨rfl, h2⟩
  have HB2 := Lib.hid (below_then HB1.out HB1.out.size h2.out)
  have H2 := Lib.hid (H1.out.below h2.out)
  have HS2 := Lib.hid (HS1.out.below h2.out)
  clear c0
  clear h2 g17 g4 g5 H1 HB1 HS1 e5
  obtain ⟨m, hm⟩ : ∃ m, manyQ q.kind = m := ⟨_, rfl⟩
  rw [hm]
  have HM := Lib.hid hm
  clear hm
  have c0 := H2.out.kind
  have c1 := H2.out.by_
  have g4 := HS2.out.c4
  have g5 := HS2.out.c5
  cases m with
  | false =>
    have HO := Lib.hid (qOk_one HK.out.1 HK.out.2 HY.out H5.out HM.out)
    go_wp2_with (first | ((with_reducible refine wpl_load_qry H2.out ?hx ?_); (case hx => rfl)))
    refine (Many_any q A c _).mono ?_
    rintro e w3 ⟨rfl, h3⟩
    rw [HM.out]
    have HB3 := Lib.hid (below_then HB2.out HB2.out.size h3.out)
    clear c0 c1
    go_wp2_with fail
    go_ret
    exact NilOr.good HO.out HB3.out
  | true =>
  by_cases h3 : q.by_ = 3
  · have e3 : (q.by_ == 3) = true := by simpa using h3
    have HO := Lib.hid (qOk_ip HK.out.1 HK.out.2 HY.out H5.out HM.out h3)
    clear h3
    go_wp2_with fail
    have HBd2 : Hid (Below w.heap.size w w2.drew) := below_drew HB2.out
    have Hd2 : Hid (QAt w.heap.size q A c w2.drew) := H2.out
    have HSd2 : Hid (Ges E w2.drew) := HS2.out.below (w := w2) (below_drew (Below.refl _ _))
    have hu24 := Tryz.underlying24
    have hi24 : (Tryz.prog.info? 24).map (·.size) = some (preA q.net).toList.length := by rw [Array.length_toList, preA_size]; exact info_pre
    obtain ⟨z, hz⟩ : ∃ z, ipOk q.net = z := ⟨_, rfl⟩
    rw [hz] at HO
    have HZ := Lib.hid hz
    clear hz g4 g5 c0 c1 e3
    cases z with
    | false =>
      refine wp_region_noPanic ?_
      refine wp_region_held_drew (S := fun W => W.cell? ⟨w.heap.size, 20, none⟩ = some (.int .i64 q.net.bits) ∧ W.rangeAt w.heap.size 3 (preA q.net).toList) (by kernel_rfl) ?_ (fun hHeld => ?_)
      · exact ⟨Hd2.out.bits, Hd2.out.range⟩
      refine wpAnyH_take (i := 0) (v := ?_) rfl (by kernel_rfl) (by kernel_rfl) (by kernel_rfl) (fun _ _ _ h => h) (Or.inl ⟨by rfl, ?_⟩) (by assumption) ?_
      rotate_left
      · intro W hSw
        (try dsimp only at hSw)
        go_simp
        (try with_reducible rfl)
      (try simp only [List.getElem_toArray, List.getElem_cons_succ, List.getElem_cons_zero, Act.put, List.setIfInBounds_toArray, List.set_cons_zero, List.set_cons_succ])
      refine wpAnyH_take (i := 1) rfl (by kernel_rfl) (by kernel_rfl) (by kernel_rfl) (fun _ _ _ h => h) (yieldsIf_load_mid (by rfl) _ _ rfl w.heap.size 3 rfl (preA q.net).toList _ (fun W h => h.2) hu24 rfl hi24) (by assumption) ?_
      (try simp only [List.getElem_toArray, List.getElem_cons_succ, List.getElem_cons_zero, Act.put, List.setIfInBounds_toArray, List.set_cons_zero, List.set_cons_succ])
      refine wpAnyH_ready (rs := [2]) (by kernel_rfl) (by simp) ?_
      refine AllReadyH.cons (o := _) rfl (fun K hK => ?_) AllReadyH.nil
      go_simp
      go_at_call 83
      refine (show Calls _ _ #[.agg (preA q.net)] _ _ from ip_Check_any (E := E) q.net HP.out _ HSd2.out).mono ?_
      rintro e w3 ⟨⟨ho, _⟩ | ⟨_, p, rfl⟩, h3⟩
      · rw [HZ.out] at ho; cases ho
      have H3 : Hid (QAt w.heap.size q A c w3) := Hd2.out.below h3.out
      have HB3 : Hid (Below w.heap.size w w3) := below_then HBd2.out HBd2.out.size h3.out
      have HS3 : Hid (Ges E w3) := HSd2.out.below h3.out
      clear h3
      (try dsimp only)
      refine hK.out _ _ ⟨H3.out.bits, H3.out.range⟩ (fun hHeld => ?_)
      clear hK K
      (try simp only [List.getElem_toArray, List.getElem_cons_succ, List.getElem_cons_zero, Act.put, List.setIfInBounds_toArray, List.set_cons_zero, List.set_cons_succ])
      refine wpAnyH_take (i := 3) (v := ?_) rfl (by kernel_rfl) (by kernel_rfl) (by kernel_rfl) (fun _ _ _ h => h) (Or.inl ⟨by rfl, ?_⟩) (by assumption) ?_
      rotate_left
      · intro W hSw
        (try dsimp only at hSw)
        go_simp
        (try with_reducible rfl)
      (try simp only [List.getElem_toArray, List.getElem_cons_succ, List.getElem_cons_zero, Act.put, List.setIfInBounds_toArray, List.set_cons_zero, List.set_cons_succ])
      refine wpAnyH_take (i := 4) (v := ?_) rfl (by kernel_rfl) (by kernel_rfl) (by kernel_rfl) (fun _ _ _ h => h) (Or.inl ⟨by rfl, ?_⟩) (by assumption) ?_
      rotate_left
      · intro W hSw
        (try dsimp only at hSw)
        go_simp
        (try with_reducible rfl)
      (try simp only [List.getElem_toArray, List.getElem_cons_succ, List.getElem_cons_zero, Act.put, List.setIfInBounds_toArray, List.set_cons_zero, List.set_cons_succ])
      refine wpAnyH_take (i := 5) (v := Go.undef) rfl (by kernel_rfl) (by kernel_rfl) (by kernel_rfl) (fun _ _ _ h => h) (Or.inr ⟨by kernel_rfl, rfl⟩) (by assumption) ?_
      (try simp only [List.getElem_toArray, List.getElem_cons_succ, List.getElem_cons_zero, Act.put, List.setIfInBounds_toArray, List.set_cons_zero, List.set_cons_succ])
      refine wpAnyH_take (i := 6) (v := Go.undef) rfl (by kernel_rfl) (by kernel_rfl) (by kernel_rfl) (fun _ _ _ h => h) (Or.inr ⟨by kernel_rfl, rfl⟩) (by assumption) ?_
      (try simp only [List.getElem_toArray, List.getElem_cons_succ, List.getElem_cons_zero, Act.put, List.setIfInBounds_toArray, List.set_cons_zero, List.set_cons_succ])
      refine wpAnyH_take (i := 7) (v := Go.undef) rfl (by kernel_rfl) (by kernel_rfl) (by kernel_rfl) (fun _ _ _ h => h) (Or.inr ⟨by kernel_rfl, rfl⟩) (by assumption) ?_
      (try simp only [List.getElem_toArray, List.getElem_cons_succ, List.getElem_cons_zero, Act.put, List.setIfInBounds_toArray, List.set_cons_zero, List.set_cons_succ])
      refine wpAnyH_take (i := 8) (v := Go.undef) rfl (by kernel_rfl) (by kernel_rfl) (by kernel_rfl) (fun _ _ _ h => h) (Or.inr ⟨by kernel_rfl, rfl⟩) (by assumption) ?_
      (try simp only [List.getElem_toArray, List.getElem_cons_succ, List.getElem_cons_zero, Act.put, List.setIfInBounds_toArray, List.set_cons_zero, List.set_cons_succ])
      refine wpAnyH_take (i := 9) (v := Go.undef) rfl (by kernel_rfl) (by kernel_rfl) (by kernel_rfl) (fun _ _ _ h => h) (Or.inr ⟨by kernel_rfl, rfl⟩) (by assumption) ?_
      (try simp only [List.getElem_toArray, List.getElem_cons_succ, List.getElem_cons_zero, Act.put, List.setIfInBounds_toArray, List.set_cons_zero, List.set_cons_succ])
      refine wpAnyH_take (i := 10) (v := Go.undef) rfl (by kernel_rfl) (by kernel_rfl) (by kernel_rfl) (fun _ _ _ h => h) (Or.inr ⟨by kernel_rfl, rfl⟩) (by assumption) ?_
      (try simp only [List.getElem_toArray, List.getElem_cons_succ, List.getElem_cons_zero, Act.put, List.setIfInBounds_toArray, List.set_cons_zero, List.set_cons_succ])
      refine wpAnyH_take (i := 11) (v := Go.undef) rfl (by kernel_rfl) (by kernel_rfl) (by kernel_rfl) (fun _ _ _ h => h) (Or.inr ⟨by kernel_rfl, rfl⟩) (by assumption) ?_
      (try simp only [List.getElem_toArray, List.getElem_cons_succ, List.getElem_cons_zero, Act.put, List.setIfInBounds_toArray, List.set_cons_zero, List.set_cons_succ])
      refine wpAnyH_take (i := 12) (v := ?_) rfl (by kernel_rfl) (by kernel_rfl) (by kernel_rfl) (fun _ _ _ h => h) (Or.inl ⟨by rfl, ?_⟩) (by assumption) ?_
      rotate_left
      · intro W hSw
        (try dsimp only at hSw)
        go_simp
        (try with_reducible rfl)
      (try simp only [List.getElem_toArray, List.getElem_cons_succ, List.getElem_cons_zero, Act.put, List.setIfInBounds_toArray, List.set_cons_zero, List.set_cons_succ])
      refine wpAnyH_done (by kernel_rfl) (NoPanic.normal ?_) _
      have HO2 : Hid (qOk q = false) := HO.out
      have g4 := HS3.out.c4
      go_wp2_with fail
      refine (find_fault_any (E 4) _).mono ?_
      rintro e w4 ⟨⟨p2, rfl⟩, h4⟩
      have HB4 := Lib.hid (below_then HB3.out HB3.out.size h4.out)
      go_wp2_with fail
      go_ret
      exact NilOr.bad HO2.out HB4.out
    | true =>
      refine wp_region_noPanic ?_
      refine wp_region_held_drew (S := fun W => W.cell? ⟨w.heap.size, 20, none⟩ = some (.int .i64 q.net.bits) ∧ W.rangeAt w.heap.size 3 (preA q.net).toList) (by kernel_rfl) ?_ (fun hHeld => ?_)
      · exact ⟨Hd2.out.bits, Hd2.out.range⟩
      refine wpAnyH_take (i := 0) (v := ?_) rfl (by kernel_rfl) (by kernel_rfl) (by kernel_rfl) (fun _ _ _ h => h) (Or.inl ⟨by rfl, ?_⟩) (by assumption) ?_
      rotate_left
      · intro W hSw
        (try dsimp only at hSw)
        go_simp
        (try with_reducible rfl)
      (try simp only [List.getElem_toArray, List.getElem_cons_succ, List.getElem_cons_zero, Act.put, List.setIfInBounds_toArray, List.set_cons_zero, List.set_cons_succ])
      refine wpAnyH_take (i := 1) rfl (by kernel_rfl) (by kernel_rfl) (by kernel_rfl) (fun _ _ _ h => h) (yieldsIf_load_mid (by rfl) _ _ rfl w.heap.size 3 rfl (preA q.net).toList _ (fun W h => h.2) hu24 rfl hi24) (by assumption) ?_
      (try simp only [List.getElem_toArray, List.getElem_cons_succ, List.getElem_cons_zero, Act.put, List.setIfInBounds_toArray, List.set_cons_zero, List.set_cons_succ])
      refine wpAnyH_ready (rs := [2]) (by kernel_rfl) (by simp) ?_
      refine AllReadyH.cons (o := _) rfl (fun K hK => ?_) AllReadyH.nil
      go_simp
      go_at_call 83
      refine (show Calls _ _ #[.agg (preA q.net)] _ _ from ip_Check_any (E := E) q.net HP.out _ HSd2.out).mono ?_
      rintro e w3 ⟨⟨_, rfl⟩ | ⟨ho, _⟩, h3⟩
      rotate_left
      · rw [HZ.out] at ho; cases ho
      have H3 : Hid (QAt w.heap.size q A c w3) := Hd2.out.below h3.out
      have HB3 : Hid (Below w.heap.size w w3) := below_then HBd2.out HBd2.out.size h3.out
      have HS3 : Hid (Ges E w3) := HSd2.out.below h3.out
      clear h3
      (try dsimp only)
      refine hK.out _ _ ⟨H3.out.bits, H3.out.range⟩ (fun hHeld => ?_)
      clear hK K
      (try simp only [List.getElem_toArray, List.getElem_cons_succ, List.getElem_cons_zero, Act.put, List.setIfInBounds_toArray, List.set_cons_zero, List.set_cons_succ])
      refine wpAnyH_take (i := 3) (v := ?_) rfl (by kernel_rfl) (by kernel_rfl) (by kernel_rfl) (fun _ _ _ h => h) (Or.inl ⟨by rfl, ?_⟩) (by assumption) ?_
      rotate_left
      · intro W hSw
        (try dsimp only at hSw)
        go_simp
        (try with_reducible rfl)
      (try simp only [List.getElem_toArray, List.getElem_cons_succ, List.getElem_cons_zero, Act.put, List.setIfInBounds_toArray, List.set_cons_zero, List.set_cons_succ])
      refine wpAnyH_take (i := 4) (v := ?_) rfl (by kernel_rfl) (by kernel_rfl) (by kernel_rfl) (fun _ _ _ h => h) (Or.inl ⟨by rfl, ?_⟩) (by assumption) ?_
      rotate_left
      · intro W hSw
        (try dsimp only at hSw)
        go_simp
        (try with_reducible rfl)
      (try simp only [List.getElem_toArray, List.getElem_cons_succ, List.getElem_cons_zero, Act.put, List.setIfInBounds_toArray, List.set_cons_zero, List.set_cons_succ])
      refine wpAnyH_take (i := 5) (v := ?_) rfl (by kernel_rfl) (by kernel_rfl) (by kernel_rfl) (fun _ _ _ h => h) (Or.inl ⟨by rfl, ?_⟩) (by assumption) ?_
      rotate_left
      · intro W hSw
        (try dsimp only at hSw)
        go_simp
        (try with_reducible rfl)
      (try simp only [List.getElem_toArray, List.getElem_cons_succ, List.getElem_cons_zero, Act.put, List.setIfInBounds_toArray, List.set_cons_zero, List.set_cons_succ])
      refine wpAnyH_take (i := 6) (v := ?_) rfl (by kernel_rfl) (by kernel_rfl) (by kernel_rfl) (fun _ _ _ h => h) (Or.inl ⟨by rfl, ?_⟩) (by assumption) ?_
      rotate_left
      · intro W hSw
        (try dsimp only at hSw)
        go_simp
        (try with_reducible rfl)
      (try simp only [List.getElem_toArray, List.getElem_cons_succ, List.getElem_cons_zero, Act.put, List.setIfInBounds_toArray, List.set_cons_zero, List.set_cons_succ])
      refine wpAnyH_take (i := 7) (v := ?_) rfl (by kernel_rfl) (by kernel_rfl) (by kernel_rfl) (fun _ _ _ h => h) (Or.inl ⟨by rfl, ?_⟩) (by assumption) ?_
      rotate_left
      · intro W hSw
        (try dsimp only at hSw)
        go_simp
        (try with_reducible rfl)
      (try simp only [List.getElem_toArray, List.getElem_cons_succ, List.getElem_cons_zero, Act.put, List.setIfInBounds_toArray, List.set_cons_zero, List.set_cons_succ])
      refine wpAnyH_take (i := 8) (v := ?_) rfl (by kernel_rfl) (by kernel_rfl) (by kernel_rfl) (fun _ _ _ h => h) (Or.inl ⟨by rfl, ?_⟩) (by assumption) ?_
      rotate_left
      · intro W hSw
        (try dsimp only at hSw)
        go_simp
        (try with_reducible rfl)
      (try simp only [List.getElem_toArray, List.getElem_cons_succ, List.getElem_cons_zero, Act.put, List.setIfInBounds_toArray, List.set_cons_zero, List.set_cons_succ])
      refine wpAnyH_take (i := 9) rfl (by kernel_rfl) (by kernel_rfl) (by kernel_rfl) (fun _ _ _ h => h) (yieldsIf_load_mid (by rfl) _ _ rfl w.heap.size 3 rfl (preA q.net).toList _ (fun W h => h.2) hu24 rfl hi24) (by assumption) ?_
      (try simp only [List.getElem_toArray, List.getElem_cons_succ, List.getElem_cons_zero, Act.put, List.setIfInBounds_toArray, List.set_cons_zero, List.set_cons_succ])
      refine wpAnyH_ready (rs := [10]) (by kernel_rfl) (by simp) ?_
      refine AllReadyH.cons (o := _) rfl (fun K hK => ?_) AllReadyH.nil
      go_simp
      go_at_call 13
      refine (show Calls _ _ #[.agg (preA q.net)] _ _ from Width_any q.net _).mono ?_
      rintro e w4 ⟨rfl, h4⟩
      have H4 : Hid (QAt w.heap.size q A c w4) := H3.out.below h4.out
      have HB4 : Hid (Below w.heap.size w w4) := below_then HB3.out HB3.out.size h4.out
      have HS4 : Hid (Ges E w4) := HS3.out.below h4.out
      clear h4
      (try dsimp only)
      refine hK.out _ _ ⟨H4.out.bits, H4.out.range⟩ (fun hHeld => ?_)
      clear hK K
      (try simp only [List.getElem_toArray, List.getElem_cons_succ, List.getElem_cons_zero, Act.put, List.setIfInBounds_toArray, List.set_cons_zero, List.set_cons_succ])
      refine wpAnyH_take (i := 11) (v := ?_) rfl (by kernel_rfl) (by kernel_rfl) (by kernel_rfl) (fun _ _ _ h => h) (Or.inl ⟨by rfl, ?_⟩) (by assumption) ?_
      rotate_left
      · intro W hSw
        (try dsimp only at hSw)
        go_simp
        (try with_reducible rfl)
      (try simp only [List.getElem_toArray, List.getElem_cons_succ, List.getElem_cons_zero, Act.put, List.setIfInBounds_toArray, List.set_cons_zero, List.set_cons_succ])
      refine wpAnyH_take (i := 12) (v := ?_) rfl (by kernel_rfl) (by kernel_rfl) (by kernel_rfl) (fun _ _ _ h => h) (Or.inl ⟨by rfl, ?_⟩) (by assumption) ?_
      rotate_left
      · intro W hSw
        (try dsimp only at hSw)
        go_simp
        (try with_reducible rfl)
      (try simp only [List.getElem_toArray, List.getElem_cons_succ, List.getElem_cons_zero, Act.put, List.setIfInBounds_toArray, List.set_cons_zero, List.set_cons_succ])
      refine wpAnyH_done (by kernel_rfl) (NoPanic.normal ?_) _
      have g4 := HS4.out.c4
      by_cases hw : q.net.bits = widthV q.net
      · have e1 : (q.net.bits != widthV q.net) = false := by rw [bne_eq_false_iff_eq]; exact hw
        have HO2 : Hid (qOk q = true) := by show _ = _; rw [HO.out, decide_eq_true hw]; rfl
        clear hw
        go_wp2_with fail
        go_ret
        exact NilOr.good HO2.out HB4.out
      · have e1 : (q.net.bits != widthV q.net) = true := by rw [bne_iff_ne]; exact hw
        have HO2 : Hid (qOk q = false) := by show _ = _; rw [HO.out, decide_eq_false hw]; rfl
        clear hw
        go_wp2_with fail
        refine (find_fault_any (E 4) _).mono ?_
        rintro e w5 ⟨⟨p2, rfl⟩, h5⟩
        have HB5 := Lib.hid (below_then HB4.out HB4.out.size h5.out)
        go_wp2_with fail
        go_ret
        exact NilOr.bad HO2.out HB5.out
  · have e3 : (q.by_ == 3) = false := by rw [beq_eq_false_iff_ne]; exact h3
    have HO := Lib.hid (qOk_many HK.out.1 HK.out.2 HY.out H5.out HM.out h3)
    clear h3
    go_wp2_with (first | ((with_reducible refine wpl_load_qry H2.out ?hx ?_); (case hx => rfl)))
    refine (Many_any q A c _).mono ?_
    rintro e w3 ⟨rfl, h3'⟩
    rw [HM.out]
    have HB3 := Lib.hid (below_then HB2.out HB2.out.size h3'.out)
    have H3 := Lib.hid (H2.out.below h3'.out)
    have HS3 := Lib.hid (HS2.out.below h3'.out)
    clear c0 c1
    clear h3' g4 g5
    have k0 := H3.out.kind
    have k22 := H3.out.whole
    have k23 := H3.out.pieces
    have g5 := HS3.out.c5
    by_cases h9 : q.kind = 9
    · have e9 : (q.kind == 9) = true := by simpa using h9
      rw [decide_eq_true h9] at HO
      clear h9
      obtain ⟨wh, hwh⟩ : ∃ x, q.whole = x := ⟨_, rfl⟩
      rw [hwh] at HO k22
      clear hwh
      cases wh with
      | true =>
        by_cases hl : q.pieces.length = 1
        · have l1 : (q.pieces.length != 1) = false := by rw [bne_eq_false_iff_eq]; exact hl
          have l2 : ((q.pieces.length : Int) != 1) = false := by rw [bne_eq_false_iff_eq]; omega
          have HO2 : Hid (qOk q = true) := by show _ = _; rw [HO.out, decide_eq_true hl]; rfl
          rw [hl] at k23
          clear hl
          go_wp2_with fail
          go_ret
          exact NilOr.good HO2.out HB3.out
        · have l1 : (q.pieces.length != 1) = true := by rw [bne_iff_ne]; exact hl
          have l2 : ((q.pieces.length : Int) != 1) = true := by rw [bne_iff_ne]; omega
          have l3 : ((q.pieces.length : Int) == 1) = false := by rw [beq_eq_false_iff_ne]; omega
          have HO2 : Hid (qOk q = false) := by show _ = _; rw [HO.out, decide_eq_false hl]; rfl
          go_wp2_with fail
          refine (find_fault_any (E 5) _).mono ?_
          rintro e w4 ⟨⟨p2, rfl⟩, h4⟩
          have HB4 := Lib.hid (below_then HB3.out HB3.out.size h4.out)
          go_wp2_with fail
          go_ret
          exact NilOr.bad HO2.out HB4.out
      | false =>
        have HO2 : Hid (qOk q = false) := by show _ = _; rw [HO.out]; rfl
        go_wp2_with fail
        refine (find_fault_any (E 5) _).mono ?_
        rintro e w4 ⟨⟨p2, rfl⟩, h4⟩
        have HB4 := Lib.hid (below_then HB3.out HB3.out.size h4.out)
        go_wp2_with fail
        go_ret
        exact NilOr.bad HO2.out HB4.out
    · have e9 : (q.kind == 9) = false := by rw [beq_eq_false_iff_ne]; exact h9
      rw [decide_eq_false h9] at HO
      clear h9
      obtain ⟨wh, hwh⟩ : ∃ x, q.whole = x := ⟨_, rfl⟩
      rw [hwh] at HO k22
      clear hwh
      cases wh with
      | true =>
        have HO2 : Hid (qOk q = false) := by show _ = _; rw [HO.out]; rfl
        go_wp2_with fail
        refine (find_fault_any (E 5) _).mono ?_
        rintro e w4 ⟨⟨p2, rfl⟩, h4⟩
        have HB4 := Lib.hid (below_then HB3.out HB3.out.size h4.out)
        go_wp2_with fail
        go_ret
        exact NilOr.bad HO2.out HB4.out
      | false =>
        have HO2 : Hid (qOk q = true) := by show _ = _; rw [HO.out]; rfl
        go_wp2_with fail
        go_ret
        exact NilOr.good HO2.out HB3.out
end Go.Proofs.YtangheahliekeaaGreatDoor

