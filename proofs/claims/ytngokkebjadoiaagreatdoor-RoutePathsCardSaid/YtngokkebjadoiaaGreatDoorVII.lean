/- What the claim uses of the text II. -/
import Derived.Test.YtngokkebjadoiaaGreatDoorVIH
set_option linter.unusedVariables false
set_option linter.unusedSimpArgs false
namespace Go.Proofs.YtngokkebjadoiaaGreatDoor
open Go.RowKit Go.PlainAid
open Go.Proofs.YtngokkebjadoiaaGreatDoorW.PrintWords hiding bt
open Go.Proofs.YtngokkebjadoiaaGreatDoorW.PrintMore

theorem app_ne (a b : ByteArray) (h : 0 < a.size) : ((a ++ b).toList == (⟨#[]⟩ : ByteArray).toList) = false := by
  apply tl_false
  intro e
  have := congrArg ByteArray.size e
  rw [ByteArray.size_append] at this
  have h0 : (⟨#[]⟩ : ByteArray).size = 0 := rfl
  omega
theorem not_empty {s : ByteArray} (h : (s.toList == (⟨#[]⟩ : ByteArray).toList) = false) : s.toList.isEmpty = false := by
  have h0 : (⟨#[]⟩ : ByteArray).toList = [] := by rw [ByteArray.toList_eq]
  rw [h0] at h
  cases hs : s.toList with
  | nil => rw [hs] at h; cases h
  | cons x l => rfl
theorem lit_ne (a : ByteArray) (h : 0 < a.size) : (a.toList == (⟨#[]⟩ : ByteArray).toList) = false := by
  apply tl_false
  intro e
  have := congrArg ByteArray.size e
  have h0 : (⟨#[]⟩ : ByteArray).size = 0 := rfl
  omega
def Both (E : Nat → Addr) (q : QV) (A : Option Addr) (c : Nat) (s : ByteArray) : Prop :=
  (∀ W, Fine E q A W → Calls Tryz.prog 6 #[.agg (qryA q A c)] W fun e w' => e = .returned (.string s) ∧ Hid (Below W.heap.size W w')) ∧
  (∀ W, Fine E q A W → Calls Tryz.prog 7 #[.agg (qryA q A c)] W fun e w' => e = .returned (.string s) ∧ Hid (Below W.heap.size W w'))
theorem kind_cases {q : QV} (h : qOk q = true) : q.kind = 1 ∨ q.kind = 2 ∨ q.kind = 3 ∨ q.kind = 4 ∨ q.kind = 5 ∨ q.kind = 6 ∨ (q.kind = 7 ∧ q.by_ = 1) ∨ (q.kind = 7 ∧ q.by_ = 2) ∨ (q.kind = 7 ∧ q.by_ = 3) ∨ (q.kind = 8 ∧ q.by_ = 1) ∨ (q.kind = 8 ∧ q.by_ = 3) ∨ (q.kind = 9 ∧ q.by_ = 4) ∨ (q.kind = 9 ∧ q.by_ = 5) := by
  unfold qOk at h
  simp only [Bool.and_eq_true, decide_eq_true_eq] at h
  obtain ⟨h1, h9, hb, _⟩ := h
  unfold byOk at hb
  by_cases h7 : q.kind = 7
  · rw [if_pos h7] at hb
    simp only [Bool.or_eq_true, decide_eq_true_eq] at hb
    omega
  · rw [if_neg h7] at hb
    by_cases h8 : q.kind = 8
    · rw [if_pos h8] at hb
      simp only [Bool.or_eq_true, decide_eq_true_eq] at hb
      omega
    · rw [if_neg h8] at hb
      by_cases h99 : q.kind = 9
      · rw [if_pos h99] at hb
        simp only [Bool.or_eq_true, decide_eq_true_eq] at hb
        omega
      · omega
theorem Path_both (E : Nat → Addr) (q : QV) (A : Option Addr) (c : Nat) (hok : qOk q = true) : ∃ s, Both E q A c s ∧ (s.toList == (⟨#[]⟩ : ByteArray).toList) = false := by
  rcases kind_cases hok with hk | hk | hk | hk | hk | hk | ⟨hk, hb⟩ | ⟨hk, hb⟩ | ⟨hk, hb⟩ | ⟨hk, hb⟩ | ⟨hk, hb⟩ | ⟨hk, hb⟩ | ⟨hk, hb⟩
  · exact ⟨_, ⟨fun W hW => Path_k1 q A c W hW hk hok, fun W hW => rPath_k1 q A c W hW hk hok⟩, lit_ne _ (by decide)⟩
  · exact ⟨_, ⟨fun W hW => Path_k2 q A c W hW hk hok, fun W hW => rPath_k2 q A c W hW hk hok⟩, app_ne _ _ (by decide)⟩
  · exact ⟨_, ⟨fun W hW => Path_k3 q A c W hW hk hok, fun W hW => rPath_k3 q A c W hW hk hok⟩, app_ne _ _ (by decide)⟩
  · exact ⟨_, ⟨fun W hW => Path_k4 q A c W hW hk hok, fun W hW => rPath_k4 q A c W hW hk hok⟩, app_ne _ _ (by decide)⟩
  · exact ⟨_, ⟨fun W hW => Path_k5 q A c W hW hk hok, fun W hW => rPath_k5 q A c W hW hk hok⟩, app_ne _ _ (by decide)⟩
  · exact ⟨_, ⟨fun W hW => Path_k6 q A c W hW hk hok, fun W hW => rPath_k6 q A c W hW hk hok⟩, app_ne _ _ (by decide)⟩
  · exact ⟨_, ⟨fun W hW => Path_k71 q A c W hW hk hb hok, fun W hW => rPath_k71 q A c W hW hk hb hok⟩, app_ne _ _ (by decide)⟩
  · exact ⟨_, ⟨fun W hW => Path_k72 q A c W hW hk hb hok, fun W hW => rPath_k72 q A c W hW hk hb hok⟩, app_ne _ _ (by decide)⟩
  · exact ⟨_, ⟨fun W hW => Path_k73 q A c W hW hk hb hok, fun W hW => rPath_k73 q A c W hW hk hb hok⟩, app_ne _ _ (by decide)⟩
  · exact ⟨_, ⟨fun W hW => Path_k81 q A c W hW hk hb hok, fun W hW => rPath_k81 q A c W hW hk hb hok⟩, app_ne _ _ (by decide)⟩
  · exact ⟨_, ⟨fun W hW => Path_k83 q A c W hW hk hb hok, fun W hW => rPath_k83 q A c W hW hk hb hok⟩, app_ne _ _ (by decide)⟩
  · exact ⟨_, ⟨fun W hW => Path_k94 q A c W hW hk hb hok, fun W hW => rPath_k94 q A c W hW hk hb hok⟩, app_ne _ _ (by decide)⟩
  · exact ⟨_, ⟨fun W hW => Path_k95 q A c W hW hk hb hok, fun W hW => rPath_k95 q A c W hW hk hb hok⟩, app_ne _ _ (by decide)⟩
theorem Path_none (E : Nat → Addr) (q : QV) (A : Option Addr) (c : Nat) (hok : qOk q = false) : Both E q A c ⟨#[]⟩ := ⟨fun W hW => Path_bad q A c W hW hok, fun W hW => rPath_bad q A c W hW hok⟩

set_option maxHeartbeats 8000000 in
set_option maxRecDepth 100000 in
theorem routePaths_walk {E : Nat → Addr} (q : QV) (A : Option Addr) (c : Nat) (w : World) (hg : Ges E w) (hc : Caps w) (haddr : ∀ i, i < 16 → q.net.addr i < 256) (hnum : 0 ≤ q.num ∧ q.num ≤ 4294967295) (hC : pk.C w A q.pieces.length q.pieces) :
    Calls Tryz.prog 3 #[.agg (qryA q A c)] w fun e w' => e = .returned (.bool true) ∧ Hid (Below w.heap.size w w') := by
  have H : Hid (QAt w.heap.size q A c (w.alloc (.cells (qryA q A c) 30))) := Row.new w _ _ rfl
  have HB : Hid (Below w.heap.size w (w.alloc (.cells (qryA q A c) 30))) := (Below.refl _ _).alloc (Nat.le_refl _) _
  have HG := Lib.hid (hg.below HB.out)
  have HC := Lib.hid (hc.below HB.out)
  have HPC := Lib.hid (Kd.C_below hC HB.out)
  have HAd := Lib.hid haddr
  have HNm := Lib.hid hnum
  clear hg hc hC haddr hnum
  go_enter Tryz.func3, Tryz.ntmps3
  go_upto_region 1 with (fail)
  generalize w.alloc (.cells (qryA q A c) 30) = w0 at *
  go_wp2_with fail
  refine (awake25 (E := E) _ HG.out HC.out).mono ?_
  rintro e w1 ⟨rfl, hb1⟩
  have H1 := Lib.hid (H.out.below hb1.out)
  have HB1 := Lib.hid (below_then HB.out HB.out.size hb1.out)
  have HG1 := Lib.hid (HG.out.below hb1.out)
  have HC1 := Lib.hid (HC.out.below hb1.out)
  have HPC1 := Lib.hid (Kd.C_below HPC.out hb1.out)
  clear H HB HG HC HPC hb1
  go_wp2_with (first | ((with_reducible refine wpl_load_qry H1.out ?hx ?_); (case hx => rfl)))
  refine (Long_any q A c _ HPC1.out).mono ?_
  rintro e w2 ⟨rfl, hb2⟩
  have H2 := Lib.hid (H1.out.below hb2.out)
  have HB2 := Lib.hid (below_then HB1.out HB1.out.size hb2.out)
  have HG2 := Lib.hid (HG1.out.below hb2.out)
  have HC2 := Lib.hid (HC1.out.below hb2.out)
  have HPC2 := Lib.hid (Kd.C_below HPC1.out hb2.out)
  clear H1 HB1 HG1 HC1 HPC1 hb2
  obtain ⟨z, hz⟩ : ∃ z, longQ q = z := ⟨_, rfl⟩
  rw [hz]
  cases z with
  | true =>
    go_wp2_with fail
    go_ret
    exact ⟨by rfl, HB2⟩
  | false =>
  have hlq := longQ_of hz
  have HF : Hid (Fine E q A w2) := ⟨HG2.out, HC2.out, HAd.out, hlq.1, hlq.2.2, hlq.2.1, HNm.out, HPC2.out⟩
  have H := H2
  have HB1 := HB2
  clear hz hlq HG2 HC2 HPC2 H2 HB2
  go_upto_region 5 with (fail)
  have hb9 : Hid (Below w2.heap.size w2 w2.drew) := below_drew (Below.refl _ _)
  have hu24 := Tryz.underlying30
  have hi24 : (Tryz.prog.info? 30).map (·.size) = some (qryA q A c).toList.length := by rw [Array.length_toList, qryA_size]; exact info_qry
  have hrg : w2.rangeAt w.heap.size 0 (qryA q A c).toList := fun j v hv => by
    have := Row.cell H.out j v (by rwa [Array.getElem?_toList] at hv)
    rw [Nat.zero_add]; exact this
  have hrk : Hid (∀ W, Below w2.heap.size w2 W → W.rangeAt w.heap.size 0 (qryA q A c).toList) := fun W hW j v hv => by
    have := Row.cell (Row.below H.out hW) j v (by rwa [Array.getElem?_toList] at hv)
    rw [Nat.zero_add]; exact this
  obtain ⟨o, ho⟩ : ∃ o, qOk q = o := ⟨_, rfl⟩
  have HOK := Lib.hid ho
  clear ho
  cases o with
  | true =>
    obtain ⟨s, hbo, hne⟩ := Path_both E q A c HOK.out
    have HPP := Lib.hid hbo
    clear hbo
    have e1 : (s.toList == s.toList) = true := beq_self_eq_true _
    have hse : s.toList.isEmpty = false := not_empty hne
    refine wp_region_noPanic ?_
    refine wp_region_held_drew (S := fun W => W.rangeAt w.heap.size 0 (qryA q A c).toList) (by kernel_rfl) ?_ (fun hHeld => ?_)
    · exact hrg
    refine wpAnyH_take (i := 0) rfl (by kernel_rfl) (by kernel_rfl) (by kernel_rfl) (fun _ _ _ h => h) (yieldsIf_load_mid (by rfl) _ _ rfl w.heap.size 0 rfl (qryA q A c).toList _ (fun W h => h) hu24 rfl hi24) (by assumption) ?_
    (try simp only [List.getElem_toArray, List.getElem_cons_succ, List.getElem_cons_zero, Act.put, List.setIfInBounds_toArray, List.set_cons_zero, List.set_cons_succ])
    refine wpAnyH_take (i := 2) rfl (by kernel_rfl) (by kernel_rfl) (by kernel_rfl) (fun _ _ _ h => h) (yieldsIf_load_mid (by rfl) _ _ rfl w.heap.size 0 rfl (qryA q A c).toList _ (fun W h => h) hu24 rfl hi24) (by assumption) ?_
    (try simp only [List.getElem_toArray, List.getElem_cons_succ, List.getElem_cons_zero, Act.put, List.setIfInBounds_toArray, List.set_cons_zero, List.set_cons_succ])
    refine wpAnyH_ready (rs := [1]) (by kernel_rfl) (by simp) ?_
    refine AllReadyH.cons (o := _) rfl (fun K hK => ?_) AllReadyH.nil
    go_simp
    go_at_call 6
    refine (show Calls _ _ #[.agg (qryA q A c)] _ _ from HPP.out.1 _ (HF.out.below hb9.out)).mono ?_
    rintro e w3 ⟨rfl, hbx⟩
    replace hb9 := Lib.hid (below_step hb9.out hbx.out)
    clear hbx
    (try dsimp only)
    refine hK.out _ _ (hrk.out _ hb9.out) (fun hHeld => ?_)
    clear hK K
    (try simp only [List.getElem_toArray, List.getElem_cons_succ, List.getElem_cons_zero, Act.put, List.setIfInBounds_toArray, List.set_cons_zero, List.set_cons_succ])
    refine wpAnyH_ready (rs := [3]) (by kernel_rfl) (by simp) ?_
    refine AllReadyH.cons (o := _) rfl (fun K hK => ?_) AllReadyH.nil
    go_simp
    go_at_call 7
    refine (show Calls _ _ #[.agg (qryA q A c)] _ _ from HPP.out.2 _ (HF.out.below hb9.out)).mono ?_
    rintro e w4 ⟨rfl, hbx⟩
    replace hb9 := Lib.hid (below_step hb9.out hbx.out)
    clear hbx
    (try dsimp only)
    refine hK.out _ _ (hrk.out _ hb9.out) (fun hHeld => ?_)
    clear hK K
    (try simp only [List.getElem_toArray, List.getElem_cons_succ, List.getElem_cons_zero, Act.put, List.setIfInBounds_toArray, List.set_cons_zero, List.set_cons_succ])
    refine wpAnyH_take (i := 4) (v := ?_) rfl (by kernel_rfl) (by kernel_rfl) (by kernel_rfl) (fun _ _ _ h => h) (Or.inl ⟨by rfl, ?_⟩) (by assumption) ?_
    rotate_left
    · intro W hSw
      (try dsimp only at hSw)
      go_simp
      (try with_reducible rfl)
    (try simp only [List.getElem_toArray, List.getElem_cons_succ, List.getElem_cons_zero, Act.put, List.setIfInBounds_toArray, List.set_cons_zero, List.set_cons_succ])
    refine wpAnyH_take (i := 5) (v := ?_) rfl (by kernel_rfl) (by kernel_rfl) (by kernel_rfl) (fun _ _ _ h => h) (Or.inl ⟨by rfl, ?_⟩) (by assumption) ?_
    rotate_left
    · intro W hSw
      (try dsimp only at hSw)
      go_simp
      (try with_reducible rfl)
    (try simp only [List.getElem_toArray, List.getElem_cons_succ, List.getElem_cons_zero, Act.put, List.setIfInBounds_toArray, List.set_cons_zero, List.set_cons_succ])
    refine wpAnyH_take (i := 6) rfl (by kernel_rfl) (by kernel_rfl) (by kernel_rfl) (fun _ _ _ h => h) (yieldsIf_load_mid (by rfl) _ _ rfl w.heap.size 0 rfl (qryA q A c).toList _ (fun W h => h) hu24 rfl hi24) (by assumption) ?_
    (try simp only [List.getElem_toArray, List.getElem_cons_succ, List.getElem_cons_zero, Act.put, List.setIfInBounds_toArray, List.set_cons_zero, List.set_cons_succ])
    refine wpAnyH_take (i := 9) rfl (by kernel_rfl) (by kernel_rfl) (by kernel_rfl) (fun _ _ _ h => h) (yieldsIf_load_mid (by rfl) _ _ rfl w.heap.size 0 rfl (qryA q A c).toList _ (fun W h => h) hu24 rfl hi24) (by assumption) ?_
    (try simp only [List.getElem_toArray, List.getElem_cons_succ, List.getElem_cons_zero, Act.put, List.setIfInBounds_toArray, List.set_cons_zero, List.set_cons_succ])
    refine wpAnyH_ready (rs := [7]) (by kernel_rfl) (by simp) ?_
    refine AllReadyH.cons (o := _) rfl (fun K hK => ?_) AllReadyH.nil
    go_simp
    go_at_call 6
    refine (show Calls _ _ #[.agg (qryA q A c)] _ _ from HPP.out.1 _ (HF.out.below hb9.out)).mono ?_
    rintro e w5 ⟨rfl, hbx⟩
    replace hb9 := Lib.hid (below_step hb9.out hbx.out)
    clear hbx
    (try dsimp only)
    refine hK.out _ _ (hrk.out _ hb9.out) (fun hHeld => ?_)
    clear hK K
    (try simp only [List.getElem_toArray, List.getElem_cons_succ, List.getElem_cons_zero, Act.put, List.setIfInBounds_toArray, List.set_cons_zero, List.set_cons_succ])
    refine wpAnyH_take (i := 8) (v := ?_) rfl (by kernel_rfl) (by kernel_rfl) (by kernel_rfl) (fun _ _ _ h => h) (Or.inl ⟨by rfl, ?_⟩) (by assumption) ?_
    rotate_left
    · intro W hSw
      (try dsimp only at hSw)
      go_simp
      (try with_reducible rfl)
    (try simp only [List.getElem_toArray, List.getElem_cons_succ, List.getElem_cons_zero, Act.put, List.setIfInBounds_toArray, List.set_cons_zero, List.set_cons_succ])
    refine wpAnyH_ready (rs := [10]) (by kernel_rfl) (by simp) ?_
    refine AllReadyH.cons (o := _) rfl (fun K hK => ?_) AllReadyH.nil
    go_simp
    go_at_call 8
    refine (show Calls _ _ #[.agg (qryA q A c)] _ _ from find_Check_any (E := E) q HF.out.addr A c _ (HF.out.ges.below hb9.out) (by have := HF.out.len; omega)).mono ?_
    rintro e w6 ⟨⟨ho, rfl⟩ | ⟨ho, p, rfl⟩, hbx⟩
    rotate_left
    · rw [HOK.out] at ho; cases ho
    clear ho
    replace hb9 := Lib.hid (below_step hb9.out hbx.out)
    clear hbx
    (try dsimp only)
    refine hK.out _ _ (hrk.out _ hb9.out) (fun hHeld => ?_)
    clear hK K
    (try simp only [List.getElem_toArray, List.getElem_cons_succ, List.getElem_cons_zero, Act.put, List.setIfInBounds_toArray, List.set_cons_zero, List.set_cons_succ])
    refine wpAnyH_take (i := 11) (v := ?_) rfl (by kernel_rfl) (by kernel_rfl) (by kernel_rfl) (fun _ _ _ h => h) (Or.inl ⟨by rfl, ?_⟩) (by assumption) ?_
    rotate_left
    · intro W hSw
      (try dsimp only at hSw)
      go_simp
      (try with_reducible rfl)
    (try simp only [List.getElem_toArray, List.getElem_cons_succ, List.getElem_cons_zero, Act.put, List.setIfInBounds_toArray, List.set_cons_zero, List.set_cons_succ])
    refine wpAnyH_take (i := 12) (v := ?_) rfl (by kernel_rfl) (by kernel_rfl) (by kernel_rfl) (fun _ _ _ h => h) (Or.inl ⟨by rfl, ?_⟩) (by assumption) ?_
    rotate_left
    · intro W hSw
      (try dsimp only at hSw)
      go_simp
      (try with_reducible rfl)
    (try simp only [List.getElem_toArray, List.getElem_cons_succ, List.getElem_cons_zero, Act.put, List.setIfInBounds_toArray, List.set_cons_zero, List.set_cons_succ])
    refine wpAnyH_take (i := 13) (v := ?_) rfl (by kernel_rfl) (by kernel_rfl) (by kernel_rfl) (fun _ _ _ h => h) (Or.inl ⟨by rfl, ?_⟩) (by assumption) ?_
    rotate_left
    · intro W hSw
      (try dsimp only at hSw)
      go_simp
      (try with_reducible rfl)
    (try simp only [List.getElem_toArray, List.getElem_cons_succ, List.getElem_cons_zero, Act.put, List.setIfInBounds_toArray, List.set_cons_zero, List.set_cons_succ])
    refine wpAnyH_take (i := 14) (v := ?_) rfl (by kernel_rfl) (by kernel_rfl) (by kernel_rfl) (fun _ _ _ h => h) (Or.inl ⟨by rfl, ?_⟩) (by assumption) ?_
    rotate_left
    · intro W hSw
      (try dsimp only at hSw)
      go_simp
      (try with_reducible rfl)
    (try simp only [List.getElem_toArray, List.getElem_cons_succ, List.getElem_cons_zero, Act.put, List.setIfInBounds_toArray, List.set_cons_zero, List.set_cons_succ])
    refine wpAnyH_done (by kernel_rfl) (NoPanic.normal ?_) _
    go_wp2_with fail
    go_ret
    exact ⟨by rfl, below_then HB1.out HB1.out.size hb9.out⟩
  | false =>
    have HPP := Lib.hid (Path_none E q A c HOK.out)
    have e1 : ((⟨#[]⟩ : ByteArray).toList == (⟨#[]⟩ : ByteArray).toList) = true := beq_self_eq_true _
    refine wp_region_noPanic ?_
    refine wp_region_held_drew (S := fun W => W.rangeAt w.heap.size 0 (qryA q A c).toList) (by kernel_rfl) ?_ (fun hHeld => ?_)
    · exact hrg
    refine wpAnyH_take (i := 0) rfl (by kernel_rfl) (by kernel_rfl) (by kernel_rfl) (fun _ _ _ h => h) (yieldsIf_load_mid (by rfl) _ _ rfl w.heap.size 0 rfl (qryA q A c).toList _ (fun W h => h) hu24 rfl hi24) (by assumption) ?_
    (try simp only [List.getElem_toArray, List.getElem_cons_succ, List.getElem_cons_zero, Act.put, List.setIfInBounds_toArray, List.set_cons_zero, List.set_cons_succ])
    refine wpAnyH_take (i := 2) rfl (by kernel_rfl) (by kernel_rfl) (by kernel_rfl) (fun _ _ _ h => h) (yieldsIf_load_mid (by rfl) _ _ rfl w.heap.size 0 rfl (qryA q A c).toList _ (fun W h => h) hu24 rfl hi24) (by assumption) ?_
    (try simp only [List.getElem_toArray, List.getElem_cons_succ, List.getElem_cons_zero, Act.put, List.setIfInBounds_toArray, List.set_cons_zero, List.set_cons_succ])
    refine wpAnyH_ready (rs := [1]) (by kernel_rfl) (by simp) ?_
    refine AllReadyH.cons (o := _) rfl (fun K hK => ?_) AllReadyH.nil
    go_simp
    go_at_call 6
    refine (show Calls _ _ #[.agg (qryA q A c)] _ _ from HPP.out.1 _ (HF.out.below hb9.out)).mono ?_
    rintro e w3 ⟨rfl, hbx⟩
    replace hb9 := Lib.hid (below_step hb9.out hbx.out)
    clear hbx
    (try dsimp only)
    refine hK.out _ _ (hrk.out _ hb9.out) (fun hHeld => ?_)
    clear hK K
    (try simp only [List.getElem_toArray, List.getElem_cons_succ, List.getElem_cons_zero, Act.put, List.setIfInBounds_toArray, List.set_cons_zero, List.set_cons_succ])
    refine wpAnyH_ready (rs := [3]) (by kernel_rfl) (by simp) ?_
    refine AllReadyH.cons (o := _) rfl (fun K hK => ?_) AllReadyH.nil
    go_simp
    go_at_call 7
    refine (show Calls _ _ #[.agg (qryA q A c)] _ _ from HPP.out.2 _ (HF.out.below hb9.out)).mono ?_
    rintro e w4 ⟨rfl, hbx⟩
    replace hb9 := Lib.hid (below_step hb9.out hbx.out)
    clear hbx
    (try dsimp only)
    refine hK.out _ _ (hrk.out _ hb9.out) (fun hHeld => ?_)
    clear hK K
    (try simp only [List.getElem_toArray, List.getElem_cons_succ, List.getElem_cons_zero, Act.put, List.setIfInBounds_toArray, List.set_cons_zero, List.set_cons_succ])
    refine wpAnyH_take (i := 4) (v := ?_) rfl (by kernel_rfl) (by kernel_rfl) (by kernel_rfl) (fun _ _ _ h => h) (Or.inl ⟨by rfl, ?_⟩) (by assumption) ?_
    rotate_left
    · intro W hSw
      (try dsimp only at hSw)
      go_simp
      (try with_reducible rfl)
    (try simp only [List.getElem_toArray, List.getElem_cons_succ, List.getElem_cons_zero, Act.put, List.setIfInBounds_toArray, List.set_cons_zero, List.set_cons_succ])
    refine wpAnyH_take (i := 5) (v := ?_) rfl (by kernel_rfl) (by kernel_rfl) (by kernel_rfl) (fun _ _ _ h => h) (Or.inl ⟨by rfl, ?_⟩) (by assumption) ?_
    rotate_left
    · intro W hSw
      (try dsimp only at hSw)
      go_simp
      (try with_reducible rfl)
    (try simp only [List.getElem_toArray, List.getElem_cons_succ, List.getElem_cons_zero, Act.put, List.setIfInBounds_toArray, List.set_cons_zero, List.set_cons_succ])
    refine wpAnyH_take (i := 6) rfl (by kernel_rfl) (by kernel_rfl) (by kernel_rfl) (fun _ _ _ h => h) (yieldsIf_load_mid (by rfl) _ _ rfl w.heap.size 0 rfl (qryA q A c).toList _ (fun W h => h) hu24 rfl hi24) (by assumption) ?_
    (try simp only [List.getElem_toArray, List.getElem_cons_succ, List.getElem_cons_zero, Act.put, List.setIfInBounds_toArray, List.set_cons_zero, List.set_cons_succ])
    refine wpAnyH_take (i := 9) rfl (by kernel_rfl) (by kernel_rfl) (by kernel_rfl) (fun _ _ _ h => h) (yieldsIf_load_mid (by rfl) _ _ rfl w.heap.size 0 rfl (qryA q A c).toList _ (fun W h => h) hu24 rfl hi24) (by assumption) ?_
    (try simp only [List.getElem_toArray, List.getElem_cons_succ, List.getElem_cons_zero, Act.put, List.setIfInBounds_toArray, List.set_cons_zero, List.set_cons_succ])
    refine wpAnyH_ready (rs := [7]) (by kernel_rfl) (by simp) ?_
    refine AllReadyH.cons (o := _) rfl (fun K hK => ?_) AllReadyH.nil
    go_simp
    go_at_call 6
    refine (show Calls _ _ #[.agg (qryA q A c)] _ _ from HPP.out.1 _ (HF.out.below hb9.out)).mono ?_
    rintro e w5 ⟨rfl, hbx⟩
    replace hb9 := Lib.hid (below_step hb9.out hbx.out)
    clear hbx
    (try dsimp only)
    refine hK.out _ _ (hrk.out _ hb9.out) (fun hHeld => ?_)
    clear hK K
    (try simp only [List.getElem_toArray, List.getElem_cons_succ, List.getElem_cons_zero, Act.put, List.setIfInBounds_toArray, List.set_cons_zero, List.set_cons_succ])
    refine wpAnyH_take (i := 8) (v := ?_) rfl (by kernel_rfl) (by kernel_rfl) (by kernel_rfl) (fun _ _ _ h => h) (Or.inl ⟨by rfl, ?_⟩) (by assumption) ?_
    rotate_left
    · intro W hSw
      (try dsimp only at hSw)
      go_simp
      (try with_reducible rfl)
    (try simp only [List.getElem_toArray, List.getElem_cons_succ, List.getElem_cons_zero, Act.put, List.setIfInBounds_toArray, List.set_cons_zero, List.set_cons_succ])
    refine wpAnyH_ready (rs := [10]) (by kernel_rfl) (by simp) ?_
    refine AllReadyH.cons (o := _) rfl (fun K hK => ?_) AllReadyH.nil
    go_simp
    go_at_call 8
    refine (show Calls _ _ #[.agg (qryA q A c)] _ _ from find_Check_any (E := E) q HF.out.addr A c _ (HF.out.ges.below hb9.out) (by have := HF.out.len; omega)).mono ?_
    rintro e w6 ⟨⟨ho, rfl⟩ | ⟨ho, p, rfl⟩, hbx⟩
    · rw [HOK.out] at ho; cases ho
    clear ho
    replace hb9 := Lib.hid (below_step hb9.out hbx.out)
    clear hbx
    (try dsimp only)
    refine hK.out _ _ (hrk.out _ hb9.out) (fun hHeld => ?_)
    clear hK K
    (try simp only [List.getElem_toArray, List.getElem_cons_succ, List.getElem_cons_zero, Act.put, List.setIfInBounds_toArray, List.set_cons_zero, List.set_cons_succ])
    refine wpAnyH_take (i := 11) (v := ?_) rfl (by kernel_rfl) (by kernel_rfl) (by kernel_rfl) (fun _ _ _ h => h) (Or.inl ⟨by rfl, ?_⟩) (by assumption) ?_
    rotate_left
    · intro W hSw
      (try dsimp only at hSw)
      go_simp
      (try with_reducible rfl)
    (try simp only [List.getElem_toArray, List.getElem_cons_succ, List.getElem_cons_zero, Act.put, List.setIfInBounds_toArray, List.set_cons_zero, List.set_cons_succ])
    refine wpAnyH_take (i := 12) (v := ?_) rfl (by kernel_rfl) (by kernel_rfl) (by kernel_rfl) (fun _ _ _ h => h) (Or.inl ⟨by rfl, ?_⟩) (by assumption) ?_
    rotate_left
    · intro W hSw
      (try dsimp only at hSw)
      go_simp
      (try with_reducible rfl)
    (try simp only [List.getElem_toArray, List.getElem_cons_succ, List.getElem_cons_zero, Act.put, List.setIfInBounds_toArray, List.set_cons_zero, List.set_cons_succ])
    refine wpAnyH_take (i := 13) (v := ?_) rfl (by kernel_rfl) (by kernel_rfl) (by kernel_rfl) (fun _ _ _ h => h) (Or.inl ⟨by rfl, ?_⟩) (by assumption) ?_
    rotate_left
    · intro W hSw
      (try dsimp only at hSw)
      go_simp
      (try with_reducible rfl)
    (try simp only [List.getElem_toArray, List.getElem_cons_succ, List.getElem_cons_zero, Act.put, List.setIfInBounds_toArray, List.set_cons_zero, List.set_cons_succ])
    refine wpAnyH_take (i := 14) (v := ?_) rfl (by kernel_rfl) (by kernel_rfl) (by kernel_rfl) (fun _ _ _ h => h) (Or.inl ⟨by rfl, ?_⟩) (by assumption) ?_
    rotate_left
    · intro W hSw
      (try dsimp only at hSw)
      go_simp
      (try with_reducible rfl)
    (try simp only [List.getElem_toArray, List.getElem_cons_succ, List.getElem_cons_zero, Act.put, List.setIfInBounds_toArray, List.set_cons_zero, List.set_cons_succ])
    refine wpAnyH_done (by kernel_rfl) (NoPanic.normal ?_) _
    go_wp2_with fail
    go_ret
    exact ⟨by rfl, below_then HB1.out HB1.out.size hb9.out⟩
end Go.Proofs.YtngokkebjadoiaaGreatDoor

