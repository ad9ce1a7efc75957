/- What the claim uses of the text IH. -/
import Derived.Test.YtngokkebjadoiaaGreatDoorVIG
set_option linter.unusedVariables false
set_option linter.unusedSimpArgs false
namespace Go.Proofs.YtngokkebjadoiaaGreatDoor
open Go.RowKit Go.PlainAid
open Go.Proofs.YtngokkebjadoiaaGreatDoorW.PrintWords hiding bt
open Go.Proofs.YtngokkebjadoiaaGreatDoorW.PrintMore
open Go.Proofs.YtngokkebjadoiaaGreatDoor.PAll

set_option maxHeartbeats 8000000 in
set_option maxRecDepth 100000 in
theorem Where_any {E : Nat → Addr} (sb eb ub : Nat) (w : World) (hm : Boo sb eb ub w) (hg : Ges E w) (hc : Caps w) :
    Calls Tryz.prog 9 #[.agg (bootsA sb), .agg (qryA q0 none 0)] w fun e w' => e = .returned (.string (tUrl ++ ⟨#[100, 111, 109, 97, 105, 110, 47, 97, 46, 99, 111, 109]⟩)) ∧ Hid (Below w.heap.size w w') := by
  have HR : Hid (Row 46 w.heap.size (bootsA sb) ((w.alloc (.cells (bootsA sb) 46)).alloc (.cells (qryA q0 none 0) 30))) := Row.old (Row.new w _ _ rfl) _
  have H : Hid (QAt (w.heap.size + 1) q0 none 0 ((w.alloc (.cells (bootsA sb) 46)).alloc (.cells (qryA q0 none 0) 30))) := Row.new _ _ _ (by simp)
  have HB : Hid (Below w.heap.size w ((w.alloc (.cells (bootsA sb) 46)).alloc (.cells (qryA q0 none 0) 30))) := ((Below.refl _ _).alloc (Nat.le_refl _) _).alloc (by simp) _
  have HM := Lib.hid (hm.below HB.out)
  have HG := Lib.hid (hg.below HB.out)
  have HC := Lib.hid (hc.below HB.out)
  clear hm hg hc
  go_enter Tryz.func9, Tryz.ntmps9
  go_upto_region 1 with (fail)
  generalize (w.alloc (.cells (bootsA sb) 46)).alloc (.cells (qryA q0 none 0) 30) = w0 at *
  go_wp2_with (first | ((with_reducible refine wpl_load_qry H.out ?hx ?_); (case hx => rfl)) | ((with_reducible refine wpl_load_boots HR.out ?hx ?_); (case hx => rfl)))
  refine (Urls_any sb eb ub _ HM.out HG.out).mono ?_
  rintro e w1 ⟨A, c, rfl, h1, hb1⟩
  have H1 := Lib.hid (H.out.below hb1.out)
  have HB1 := Lib.hid (below_then HB.out HB.out.size hb1.out)
  have HG1 := Lib.hid (HG.out.below hb1.out)
  have HC1 := Lib.hid (HC.out.below hb1.out)
  clear H HR HB HM HG HC hb1
  go_upto_region 4 with (fail)
  have HPth : Hid (∀ W, Below w1.heap.size w1 W → Calls Tryz.prog 6 #[.agg (qryA q0 none 0)] W fun e w' => e = .returned (.string ⟨#[100, 111, 109, 97, 105, 110, 47, 97, 46, 99, 111, 109]⟩) ∧ Hid (Below w1.heap.size w1 w')) := by
    intro W hW
    have h := Path_k2 (E := E) q0 none 0 W (q0_fine (HG1.out.below hW) (HC1.out.below hW)) rfl q0_ok
    rw [q0_text] at h
    refine Calls.mono h ?_
    rintro e w' ⟨rfl, hb⟩
    exact ⟨rfl, below_step hW hb.out⟩
  have HBst : Hid (∀ W, Below w1.heap.size w1 W → Calls Tryz.prog 28 #[.slice A 1 c] W fun e w' => e = .returned (.string tUrl) ∧ Hid (Below w1.heap.size w1 w')) := by
    intro W hW
    refine Calls.mono (Best_any A c W ⟨h1.out.1, Kd.C_below h1.out.2 hW⟩) ?_
    rintro e w' ⟨rfl, hb⟩
    exact ⟨rfl, below_step hW hb.out⟩
  have hb9 : Hid (Below w1.heap.size w1 w1.drew) := below_drew (Below.refl _ _)
  have hu24 := Tryz.underlying30
  have hi24 : (Tryz.prog.info? 30).map (·.size) = some (qryA q0 none 0).toList.length := by rw [Array.length_toList, qryA_size]; exact info_qry
  obtain ⟨tu, htu⟩ : ∃ tu, tUrl = tu := ⟨_, rfl⟩
  have hts : tu.size = 10 := by rw [← htu]; rfl
  have o1 : (9223372036854775807 < tu.size + 12) = False := by rw [eq_iff_iff]; constructor; omega; intro h; exact h.elim
  have o2 : (⟨#[100, 111, 109, 97, 105, 110, 47, 97, 46, 99, 111, 109]⟩ : ByteArray).size = 12 := rfl
  rw [htu] at HBst
  have hrg : w1.rangeAt (w.heap.size + 1) 0 (qryA q0 none 0).toList := fun j v hv => by
    have := Row.cell H1.out j v (by rwa [Array.getElem?_toList] at hv)
    rw [Nat.zero_add]; exact this
  have hrk : Hid (∀ W, Below w1.heap.size w1 W → W.rangeAt (w.heap.size + 1) 0 (qryA q0 none 0).toList) := fun W hW j v hv => by
    have := Row.cell (Row.below H1.out hW) j v (by rwa [Array.getElem?_toList] at hv)
    rw [Nat.zero_add]; exact this
  refine wp_region_noPanic ?_
  refine wp_region_held_drew (S := fun W => W.rangeAt (w.heap.size + 1) 0 (qryA q0 none 0).toList) (by kernel_rfl) ?_ (fun hHeld => ?_)
  · exact hrg
  refine wpAnyH_take (i := 0) (v := ?_) rfl (by kernel_rfl) (by kernel_rfl) (by kernel_rfl) (fun _ _ _ h => h) (Or.inl ⟨by rfl, ?_⟩) (by assumption) ?_
  rotate_left
  · intro W hSw
    (try dsimp only at hSw)
    go_simp
    (try with_reducible rfl)
  (try simp only [List.getElem_toArray, List.getElem_cons_succ, List.getElem_cons_zero, Act.put, List.setIfInBounds_toArray, List.set_cons_zero, List.set_cons_succ])
  refine wpAnyH_take (i := 2) rfl (by kernel_rfl) (by kernel_rfl) (by kernel_rfl) (fun _ _ _ h => h) (yieldsIf_load_mid (by rfl) _ _ rfl (w.heap.size + 1) 0 rfl (qryA q0 none 0).toList _ (fun W h => h) hu24 rfl hi24) (by assumption) ?_
  (try simp only [List.getElem_toArray, List.getElem_cons_succ, List.getElem_cons_zero, Act.put, List.setIfInBounds_toArray, List.set_cons_zero, List.set_cons_succ])
  refine wpAnyH_ready (rs := [1]) (by kernel_rfl) (by simp) ?_
  refine AllReadyH.cons (o := _) rfl (fun K hK => ?_) AllReadyH.nil
  go_simp
  go_at_call 28
  refine (HBst.out _ hb9.out).mono ?_
  rintro e w8 ⟨rfl, hb9⟩
  (try dsimp only)
  refine hK.out _ _ (hrk.out _ hb9.out) (fun hHeld => ?_)
  clear hK K
  (try simp only [List.getElem_toArray, List.getElem_cons_succ, List.getElem_cons_zero, Act.put, List.setIfInBounds_toArray, List.set_cons_zero, List.set_cons_succ])
  refine wpAnyH_ready (rs := [3]) (by kernel_rfl) (by simp) ?_
  refine AllReadyH.cons (o := _) rfl (fun K hK => ?_) AllReadyH.nil
  go_simp
  go_at_call 6
  refine (show Calls _ _ #[.agg (qryA q0 none 0)] _ _ from HPth.out _ hb9.out).mono ?_
  rintro e w9 ⟨rfl, hb9⟩
  (try dsimp only)
  refine hK.out _ _ (hrk.out _ hb9.out) (fun hHeld => ?_)
  clear hK K
  (try simp only [List.getElem_toArray, List.getElem_cons_succ, List.getElem_cons_zero, Act.put, List.setIfInBounds_toArray, List.set_cons_zero, List.set_cons_succ])
  refine wpAnyH_take (i := 4) (v := ?_) rfl (by kernel_rfl) (by kernel_rfl) (by kernel_rfl) (fun _ _ _ h => h) (Or.inl ⟨by rfl, ?_⟩) (by assumption) ?_
  rotate_left
  · intro W hSw
    (try dsimp only at hSw)
    go_simp
    (try with_reducible rfl)
  (try simp only [List.getElem_toArray, List.getElem_cons_succ, List.getElem_cons_zero, Act.put, List.setIfInBounds_toArray, List.set_cons_zero, List.set_cons_succ])
  refine wpAnyH_take (i := 5) (v := ?_) rfl (by kernel_rfl) (by kernel_rfl) (by kernel_rfl) (fun _ _ _ h => h) (Or.inl ⟨by rfl, ?_⟩) (by assumption) ?_
  rotate_left
  · intro W hSw
    (try dsimp only at hSw)
    go_simp
    (try with_reducible rfl)
  (try simp only [List.getElem_toArray, List.getElem_cons_succ, List.getElem_cons_zero, Act.put, List.setIfInBounds_toArray, List.set_cons_zero, List.set_cons_succ])
  refine wpAnyH_done (by kernel_rfl) (NoPanic.normal ?_) _
  go_wp2_with fail
  go_ret
  exact ⟨by rw [htu]; rfl, below_then HB1.out HB1.out.size hb9.out⟩

/-- The awake's other query. -/
def q1 : QV := ⟨5, 0, ⟨#[]⟩, ⟨false, fun i => if i = 0 then 192 else if i = 2 then 2 else 0, 24⟩, 0, false, []⟩
theorem q1_ok : qOk q1 = true := by decide +kernel
theorem q1_fine {E : Nat → Addr} {w : World} (hg : Ges E w) (hc : Caps w) : Fine E q1 none w := ⟨hg, hc, fun i hi => (by show (if i = 0 then 192 else if i = 2 then 2 else 0) < 256; split; omega; split <;> omega), by decide, fun x hx => (by cases hx), by decide, by decide, Kd.C_nil pk w⟩
theorem q1_ip : ipT q1.net = [49, 57, 50, 46, 48, 46, 50, 46, 48, 47, 50, 52] := by
  have d192 : digs 10 192 = [49, 57, 50] := by
    rw [digs_great 10 192 (by omega) (by omega), show 192 / 10 = 19 from rfl, digs_great 10 19 (by omega) (by omega), show 19 / 10 = 1 from rfl, digs_small 10 1 (by omega)]
    rfl
  have d0 : digs 10 0 = [48] := by rw [digs_small 10 0 (by omega)]; rfl
  have d2 : digs 10 2 = [50] := by rw [digs_small 10 2 (by omega)]; rfl
  have d24 : digs 10 24 = [50, 52] := by
    rw [digs_great 10 24 (by omega) (by omega), show 24 / 10 = 2 from rfl, digs_small 10 2 (by omega)]
    rfl
  show joinI [46] [digs 10 192, digs 10 0, digs 10 2, digs 10 0] ++ (47 :: digs 10 24) = _
  rw [d192, d0, d2, d24]
  rfl
theorem q1_text : (⟨#[105, 112, 47]⟩ ++ strOfNums (ipT q1.net) : ByteArray) = ⟨#[105, 112, 47, 49, 57, 50, 46, 48, 46, 50, 46, 48, 47, 50, 52]⟩ := by
  rw [q1_ip]
  kernel_rfl
section
variable {ops : Array Oper} {rest : List Oper} {a : Act} {w : World} {Q : Exit → Act → World → Prop} {dst : Option Tmp} {x y : Operand} {b sb : Nat}
theorem wpl_load_bootsG {o : Oper} (H : Row 46 b (bootsA sb) w) (hw : Region.wanted o (yielded ops a.tmps) = true) (ho : o.op = .load 46 x) (hx : a.eval x = .pointer (some ⟨b, 0, none⟩)) (h : wpList Tryz.prog ops Q rest (a.put o.dst (.agg (bootsA sb))) w) : wpList Tryz.prog ops Q (o :: rest) a w := by
  refine wpList_step fun K' hK' => ?_
  rw [if_pos hw]
  exact wp_load_row 46 x ho b hx 46 _ (0, 0) _ H Tryz.underlying46 rfl info_boots (hK' _ _ h)
end
set_option maxHeartbeats 8000000 in
set_option maxRecDepth 100000 in
theorem awake25 {E : Nat → Addr} (w : World) (hg : Ges E w) (hc : Caps w) :
    Calls Tryz.prog 4 #[] w fun e w' => e = .returned (.bool true) ∧ Hid (Below w.heap.size w w') := by
  have HG := Lib.hid hg
  have HC := Lib.hid hc
  clear hg hc
  go_enter Tryz.func4, Tryz.ntmps4
  go_upto_region 2 with (fail)
  change Code.wp _ _ _ _ ((((w.alloc (.cells #[.string ⟨#[99, 111, 109]⟩] 9)).alloc (.cells #[.string ⟨#[104, 116, 116, 112, 115, 58, 47, 47, 114, 47]⟩] 9)).alloc (.cells #[.slice (some ⟨w.heap.size, 0, none⟩) 1 1, .slice (some ⟨w.heap.size + 1, 0, none⟩) 1 1] 39)).alloc (.cells (bootsA (w.heap.size + 1 + 1)) 46))
  have R0 : Row 9 w.heap.size #[.string ⟨#[99, 111, 109]⟩] ((((w.alloc (.cells #[.string ⟨#[99, 111, 109]⟩] 9)).alloc (.cells #[.string ⟨#[104, 116, 116, 112, 115, 58, 47, 47, 114, 47]⟩] 9)).alloc (.cells #[.slice (some ⟨w.heap.size, 0, none⟩) 1 1, .slice (some ⟨w.heap.size + 1, 0, none⟩) 1 1] 39)).alloc (.cells (bootsA (w.heap.size + 1 + 1)) 46)) := Row.old (Row.old (Row.old (Row.new w _ _ rfl) _) _) _
  have R1 : Row 9 (w.heap.size + 1) #[.string ⟨#[104, 116, 116, 112, 115, 58, 47, 47, 114, 47]⟩] ((((w.alloc (.cells #[.string ⟨#[99, 111, 109]⟩] 9)).alloc (.cells #[.string ⟨#[104, 116, 116, 112, 115, 58, 47, 47, 114, 47]⟩] 9)).alloc (.cells #[.slice (some ⟨w.heap.size, 0, none⟩) 1 1, .slice (some ⟨w.heap.size + 1, 0, none⟩) 1 1] 39)).alloc (.cells (bootsA (w.heap.size + 1 + 1)) 46)) := Row.old (Row.old (Row.new _ _ _ (by simp)) _) _
  have R2 : Row 39 (w.heap.size + 1 + 1) #[.slice (some ⟨w.heap.size, 0, none⟩) 1 1, .slice (some ⟨w.heap.size + 1, 0, none⟩) 1 1] ((((w.alloc (.cells #[.string ⟨#[99, 111, 109]⟩] 9)).alloc (.cells #[.string ⟨#[104, 116, 116, 112, 115, 58, 47, 47, 114, 47]⟩] 9)).alloc (.cells #[.slice (some ⟨w.heap.size, 0, none⟩) 1 1, .slice (some ⟨w.heap.size + 1, 0, none⟩) 1 1] 39)).alloc (.cells (bootsA (w.heap.size + 1 + 1)) 46)) := Row.old (Row.new _ _ _ (by simp)) _
  have HR : Hid (Row 46 (w.heap.size + 1 + 1 + 1) (bootsA (w.heap.size + 1 + 1)) ((((w.alloc (.cells #[.string ⟨#[99, 111, 109]⟩] 9)).alloc (.cells #[.string ⟨#[104, 116, 116, 112, 115, 58, 47, 47, 114, 47]⟩] 9)).alloc (.cells #[.slice (some ⟨w.heap.size, 0, none⟩) 1 1, .slice (some ⟨w.heap.size + 1, 0, none⟩) 1 1] 39)).alloc (.cells (bootsA (w.heap.size + 1 + 1)) 46))) := Row.new _ _ _ (by simp)
  have HB : Hid (Below w.heap.size w ((((w.alloc (.cells #[.string ⟨#[99, 111, 109]⟩] 9)).alloc (.cells #[.string ⟨#[104, 116, 116, 112, 115, 58, 47, 47, 114, 47]⟩] 9)).alloc (.cells #[.slice (some ⟨w.heap.size, 0, none⟩) 1 1, .slice (some ⟨w.heap.size + 1, 0, none⟩) 1 1] 39)).alloc (.cells (bootsA (w.heap.size + 1 + 1)) 46))) := ((((Below.refl _ _).alloc (Nat.le_refl _) _).alloc (by simp) _).alloc (by simp; omega) _).alloc (by simp; omega) _
  have HM : Hid (Boo (w.heap.size + 1 + 1) w.heap.size (w.heap.size + 1) ((((w.alloc (.cells #[.string ⟨#[99, 111, 109]⟩] 9)).alloc (.cells #[.string ⟨#[104, 116, 116, 112, 115, 58, 47, 47, 114, 47]⟩] 9)).alloc (.cells #[.slice (some ⟨w.heap.size, 0, none⟩) 1 1, .slice (some ⟨w.heap.size + 1, 0, none⟩) 1 1] 39)).alloc (.cells (bootsA (w.heap.size + 1 + 1)) 46))) := ⟨R2.cell 0 _ rfl, R2.cell 1 _ rfl, R0.cell 0 _ rfl, R1.cell 0 _ rfl⟩
  have HG1 := Lib.hid (HG.out.below HB.out)
  have HC1 := Lib.hid (HC.out.below HB.out)
  clear R0 R1 R2 HG HC
  generalize ((((w.alloc (.cells #[.string ⟨#[99, 111, 109]⟩] 9)).alloc (.cells #[.string ⟨#[104, 116, 116, 112, 115, 58, 47, 47, 114, 47]⟩] 9)).alloc (.cells #[.slice (some ⟨w.heap.size, 0, none⟩) 1 1, .slice (some ⟨w.heap.size + 1, 0, none⟩) 1 1] 39)).alloc (.cells (bootsA (w.heap.size + 1 + 1)) 46)) = w0 at *
  have HP1 : Hid (Calls Tryz.prog 6 #[.agg (qryA q1 none 0)] w0 fun e w' => e = .returned (.string ⟨#[105, 112, 47, 49, 57, 50, 46, 48, 46, 50, 46, 48, 47, 50, 52]⟩) ∧ Hid (Below w0.heap.size w0 w')) := by
    have h := Path_k5 (E := E) q1 none 0 w0 (q1_fine HG1.out HC1.out) rfl q1_ok
    rw [q1_text] at h
    exact h
  have e1 : ((⟨#[105, 112, 47, 49, 57, 50, 46, 48, 46, 50, 46, 48, 47, 50, 52]⟩ : ByteArray).toList == (⟨#[105, 112, 47, 49, 57, 50, 46, 48, 46, 50, 46, 48, 47, 50, 52]⟩ : ByteArray).toList) = true := beq_self_eq_true _
  go_wp2_with fail
  refine (show Calls _ _ #[.agg (qryA q1 none 0)] _ _ from HP1.out).mono ?_
  rintro e w1 ⟨rfl, hb1⟩
  have HB1 := Lib.hid (below_then HB.out HB.out.size hb1.out)
  have HR1 := Lib.hid (HR.out.below hb1.out)
  have HW : Hid (Calls Tryz.prog 9 #[.agg (bootsA (w.heap.size + 1 + 1)), .agg (qryA q0 none 0)] w1 fun e w' => e = .returned (.string ⟨#[104, 116, 116, 112, 115, 58, 47, 47, 114, 47, 100, 111, 109, 97, 105, 110, 47, 97, 46, 99, 111, 109]⟩) ∧ Hid (Below w1.heap.size w1 w')) := by
    have h := Where_any (E := E) (w.heap.size + 1 + 1) w.heap.size (w.heap.size + 1) w1 (HM.out.below hb1.out) (HG1.out.below hb1.out) (HC1.out.below hb1.out)
    rw [show (tUrl ++ ⟨#[100, 111, 109, 97, 105, 110, 47, 97, 46, 99, 111, 109]⟩ : ByteArray) = ⟨#[104, 116, 116, 112, 115, 58, 47, 47, 114, 47, 100, 111, 109, 97, 105, 110, 47, 97, 46, 99, 111, 109]⟩ by kernel_rfl] at h
    exact h
  have e2 : ((⟨#[104, 116, 116, 112, 115, 58, 47, 47, 114, 47, 100, 111, 109, 97, 105, 110, 47, 97, 46, 99, 111, 109]⟩ : ByteArray).toList == (⟨#[104, 116, 116, 112, 115, 58, 47, 47, 114, 47, 100, 111, 109, 97, 105, 110, 47, 97, 46, 99, 111, 109]⟩ : ByteArray).toList) = true := beq_self_eq_true _
  clear HP1 HB HR hb1 HM HG1 HC1
  go_wp2_with (first | ((with_reducible refine wpl_load_bootsG HR1.out rfl rfl ?hx ?_); (case hx => rfl)))
  refine (show Calls _ _ #[.agg (bootsA (w.heap.size + 1 + 1)), .agg (qryA q0 none 0)] _ _ from HW.out).mono ?_
  rintro e w2 ⟨rfl, hb2⟩
  have HB2 := Lib.hid (below_then HB1.out HB1.out.size hb2.out)
  clear HW HB1 HR1
  go_wp2_with fail
  go_ret
  exact ⟨by rfl, HB2⟩
end Go.Proofs.YtngokkebjadoiaaGreatDoor

