/- What the claim uses of the text IG. -/
import Derived.Test.YtngokkebjadoiaaGreatDoorVIF
import Derived.Test.YtngokkebjadoiaaGreatDoorVIE
set_option linter.unusedVariables false
set_option linter.unusedSimpArgs false
namespace Go.Proofs.YtngokkebjadoiaaGreatDoor
open Go.RowKit Go.PlainAid
open Go.Proofs.YtngokkebjadoiaaGreatDoorW.PrintWords hiding bt
open Go.Proofs.YtngokkebjadoiaaGreatDoorW.PrintMore
open Go.Proofs.YtngokkebjadoiaaGreatDoor.PAll

def tUrl : ByteArray := ⟨#[104, 116, 116, 112, 115, 58, 47, 47, 114, 47]⟩
/-- The registry's memory: its services, their entries and addresses. -/
structure Boo (sb eb ub : Nat) (w : World) : Prop where
  s0 : w.cell? ⟨sb, 0, none⟩ = some (.slice (some ⟨eb, 0, none⟩) 1 1)
  s1 : w.cell? ⟨sb, 1, none⟩ = some (.slice (some ⟨ub, 0, none⟩) 1 1)
  e0 : w.cell? ⟨eb, 0, none⟩ = some (.string ⟨#[99, 111, 109]⟩)
  u0 : w.cell? ⟨ub, 0, none⟩ = some (.string ⟨#[104, 116, 116, 112, 115, 58, 47, 47, 114, 47]⟩)
theorem Boo.below {sb eb ub : Nat} {w w' : World} (h : Boo sb eb ub w) (hb : Below w.heap.size w w') : Boo sb eb ub w' := ⟨cell_below hb h.s0, cell_below hb h.s1, cell_below hb h.e0, cell_below hb h.u0⟩

set_option maxHeartbeats 1000000 in
theorem ForName1_any (cb : Nat) (w : World) (hc : w.cell? ⟨cb, 0, none⟩ = some (.string ⟨#[97, 46, 99, 111, 109]⟩)) :
    Calls Tryz.prog 60 #[.string ⟨#[99, 111, 109]⟩, .pointer (some ⟨cb, 0, none⟩)] w fun e w' => e = .returned (.int .i64 3) ∧ Hid (Below w.heap.size w w') := by
  go_enter Tryz.func60, Tryz.ntmps60
  go_wp2_with (go_at_call 61; refine (Under_any _).mono ?_; rintro e w2 ⟨rfl, hb2⟩)
  go_ret
  exact ⟨by rfl, hb2⟩
set_option maxHeartbeats 4000000 in
set_option maxRecDepth 100000 in
theorem best_any (sb eb ub cb : Nat) (w : World) (hm : Boo sb eb ub w) (hc : w.cell? ⟨cb, 0, none⟩ = some (.string ⟨#[97, 46, 99, 111, 109]⟩)) :
    Calls Tryz.prog 59 #[.agg #[.int .i64 1, .int .i64 0, .int .i64 0, .slice (some ⟨sb, 0, none⟩) 1 1], .func (.func 60) #[] #[.pointer (some ⟨cb, 0, none⟩)]] w fun e w' => ∃ A c, e = .returned (.slice A 1 c) ∧ Hid (1 ≤ c ∧ Kd.string.C w' A 1 [tUrl]) ∧ Hid (Below w.heap.size w w') := by
  have H : Hid (Row 44 w.heap.size #[.int .i64 1, .int .i64 0, .int .i64 0, .slice (some ⟨sb, 0, none⟩) 1 1] (w.alloc (.cells #[.int .i64 1, .int .i64 0, .int .i64 0, .slice (some ⟨sb, 0, none⟩) 1 1] 44))) := Row.new w _ _ rfl
  have HB : Hid (Below w.heap.size w (w.alloc (.cells #[.int .i64 1, .int .i64 0, .int .i64 0, .slice (some ⟨sb, 0, none⟩) 1 1] 44))) := (Below.refl _ _).alloc (Nat.le_refl _) _
  have HM := Lib.hid hm
  have HC := Lib.hid hc
  clear hm hc
  go_enter Tryz.func59, Tryz.ntmps59
  go_upto_region 1 with (fail)
  generalize w.alloc (.cells #[.int .i64 1, .int .i64 0, .int .i64 0, .slice (some ⟨sb, 0, none⟩) 1 1] 44) = w0 at *
  have c3 := H.out.cell 3 _ rfl
  go_wp2_with fail
  clear c3 H
  go_loopg [5, 6, 15] 1 (fun k v5 v6 v15 w' => ((k = 1 ∧ v5 = .int .i64 (-1) ∧ v6 = .slice none 0 0 ∧ v15 = .int .i64 0) ∨ (k = 0 ∧ v5 = .int .i64 3 ∧ v6 = .slice (some ⟨ub, 0, none⟩) 1 1 ∧ v15 = .int .i64 1)) ∧ Hid (Below w.heap.size w w'))
  case atStart => exact ⟨.inl ⟨rfl, rfl, rfl, rfl⟩, HB⟩
  case round =>
    obtain ⟨⟨rfl, rfl, rfl, rfl⟩ | ⟨rfl, rfl, rfl, rfl⟩, HB1⟩ := hrel
    · have M1 := HM.out.below HB1.out
      have s0 := M1.s0
      have s1 := M1.s1
      have HV : Hid (Row 39 wr.heap.size #[.slice (some ⟨eb, 0, none⟩) 1 1, .slice (some ⟨ub, 0, none⟩) 1 1] (wr.alloc (.cells #[.slice (some ⟨eb, 0, none⟩) 1 1, .slice (some ⟨ub, 0, none⟩) 1 1] 39))) := Row.new wr _ _ rfl
      have HB2 : Hid (Below w.heap.size w (wr.alloc (.cells #[.slice (some ⟨eb, 0, none⟩) 1 1, .slice (some ⟨ub, 0, none⟩) 1 1] 39))) := HB1.out.alloc HB1.out.size _
      clear M1
      go_upto_region 6 with (fail)
      generalize wr.alloc (.cells #[.slice (some ⟨eb, 0, none⟩) 1 1, .slice (some ⟨ub, 0, none⟩) 1 1] 39) = w2 at *
      clear s0 s1
      have x0 := HV.out.cell 0 _ rfl
      go_wp2_with fail
      clear x0
      go_loopg [5, 6, 22] 1 (fun k v5 v6 v22 w' => ((k = 1 ∧ v5 = .int .i64 (-1) ∧ v6 = .slice none 0 0 ∧ v22 = .int .i64 0) ∨ (k = 0 ∧ v5 = .int .i64 3 ∧ v6 = .slice (some ⟨ub, 0, none⟩) 1 1 ∧ v22 = .int .i64 1)) ∧ Hid (Below w.heap.size w w') ∧ Hid (Row 39 wr.heap.size #[.slice (some ⟨eb, 0, none⟩) 1 1, .slice (some ⟨ub, 0, none⟩) 1 1] w'))
      case atStart => exact ⟨.inl ⟨rfl, rfl, rfl, rfl⟩, HB2, HV⟩
      case round =>
        obtain ⟨⟨rfl, rfl, rfl, rfl⟩ | ⟨rfl, rfl, rfl, rfl⟩, HB3, HV3⟩ := hrel
        · have e0 := (HM.out.below HB3.out).e0
          have HCb := Lib.hid (cell_below HB3.out HC.out)
          have x1 := HV3.out.cell 1 _ rfl
          go_wp2_with fail
          refine (ForName1_any cb _ HCb.out).mono ?_
          rintro e w5 ⟨rfl, hb5⟩
          have HB5 := Lib.hid (below_then HB3.out HB3.out.size hb5.out)
          have HV5 := Lib.hid (HV3.out.below hb5.out)
          clear hb5 e0 x1 HB3 HV3 HCb
          have x1 := HV5.out.cell 1 _ rfl
          go_wp2_with fail
          go_quiet (fail)
          go_wp2_with fail
          go_roundg 0
          case measure => omega
          case rel => exact ⟨.inr ⟨rfl, rfl, rfl, rfl⟩, pw_below_drewN HB5.out _, HV5⟩
        · go_wp2_with fail
          go_roundg 0
          case measure => omega
          case rel => exact ⟨.inr ⟨rfl, rfl, rfl, rfl⟩, HB3⟩
    · have u0 := (HM.out.below HB1.out).u0
      have HCl := Lib.hid (slices_Clone_string ub 0 1 1 [tUrl] wr (by simp) (by decide) (fun j hj => by
        simp at hj; subst hj; exact u0))
      go_wp2_with fail
      refine HCl.out.mono ?_
      rintro e w2 ⟨v', rfl, ho, _, hb2⟩
      have hR : Kd.R Kd.string 9 w2 wr.heap.size (fun _ => True) v' [tUrl] := ⟨fun _ _ => trivial, [.string tUrl], ho, (Reps.none _ _).snoc rfl rfl⟩
      obtain ⟨A, c, rfl, hc1, hC1⟩ := Kd.R_reads hR
      have HO : Hid (1 ≤ c ∧ Kd.string.C w2 A 1 [tUrl]) := ⟨hc1, hC1⟩
      have HB9 := Lib.hid (below_then HB1.out HB1.out.size hb2)
      clear ho hb2 hR hc1 hC1
      go_wp2
      go_ret
      exact ⟨_, _, rfl, HO, HB9⟩

set_option maxHeartbeats 4000000 in
set_option maxRecDepth 100000 in
theorem ForName_any (sb eb ub : Nat) (w : World) (hm : Boo sb eb ub w) :
    Calls Tryz.prog 43 #[.agg #[.int .i64 1, .int .i64 0, .int .i64 0, .slice (some ⟨sb, 0, none⟩) 1 1], .string ⟨#[97, 46, 99, 111, 109]⟩] w fun e w' => ∃ A c, e = .returned (.slice A 1 c) ∧ Hid (1 ≤ c ∧ Kd.string.C w' A 1 [tUrl]) ∧ Hid (Below w.heap.size w w') := by
  have H : Hid (Row 44 w.heap.size #[.int .i64 1, .int .i64 0, .int .i64 0, .slice (some ⟨sb, 0, none⟩) 1 1] ((w.alloc (.cells #[.int .i64 1, .int .i64 0, .int .i64 0, .slice (some ⟨sb, 0, none⟩) 1 1] 44)).alloc (.cells #[.string ⟨#[97, 46, 99, 111, 109]⟩] 9))) := Row.old (Row.new w _ _ rfl) _
  have HS : Hid (Row 9 (w.heap.size + 1) #[.string ⟨#[97, 46, 99, 111, 109]⟩] ((w.alloc (.cells #[.int .i64 1, .int .i64 0, .int .i64 0, .slice (some ⟨sb, 0, none⟩) 1 1] 44)).alloc (.cells #[.string ⟨#[97, 46, 99, 111, 109]⟩] 9))) := Row.new _ _ _ (by simp)
  have HB : Hid (Below w.heap.size w ((w.alloc (.cells #[.int .i64 1, .int .i64 0, .int .i64 0, .slice (some ⟨sb, 0, none⟩) 1 1] 44)).alloc (.cells #[.string ⟨#[97, 46, 99, 111, 109]⟩] 9))) := ((Below.refl _ _).alloc (Nat.le_refl _) _).alloc (by simp) _
  have HM := Lib.hid (hm.below HB.out)
  clear hm
  go_enter Tryz.func43, Tryz.ntmps43
  go_upto_region 1 with (fail)
  generalize (w.alloc (.cells #[.int .i64 1, .int .i64 0, .int .i64 0, .slice (some ⟨sb, 0, none⟩) 1 1] 44)).alloc (.cells #[.string ⟨#[97, 46, 99, 111, 109]⟩] 9) = w0 at *
  have c0 := H.out.cell 0 _ rfl
  have c1 := H.out.cell 1 _ rfl
  have c2 := H.out.cell 2 _ rfl
  have c3 := H.out.cell 3 _ rfl
  have x0 := HS.out.cell 0 _ rfl
  have HBt := Lib.hid (best_any sb eb ub (w.heap.size + 1) w0 HM.out x0)
  clear x0
  go_wp2_with fail
  refine HBt.out.mono ?_
  rintro e w2 ⟨A, c, rfl, h1, h2⟩
  have HB2 := Lib.hid (below_then HB.out HB.out.size h2.out)
  go_wp2_with fail
  go_ret
  exact ⟨A, c, rfl, h1, HB2⟩
theorem best_f : boot_Best.f 5 [tUrl] = some tUrl := by kernel_rfl
theorem Best_any (A : Option Addr) (c : Nat) (w : World) (h : 1 ≤ c ∧ Kd.string.C w A 1 [tUrl]) : Calls Tryz.prog 28 #[.slice A 1 c] w fun e w' => e = .returned (.string tUrl) ∧ Hid (Below w.heap.size w w') := by
  refine (boot_Best.calls 5 A c [tUrl] tUrl w h.2 h.1 best_f).mono ?_
  rintro e w' ⟨rfl, ⟨n, rfl⟩⟩
  exact ⟨rfl, pw_below_drewN (Below.refl _ _) n⟩

/-- The awake's query. -/
def q0 : QV := ⟨2, 0, ⟨#[97, 46, 99, 111, 109]⟩, ⟨false, fun _ => 0, 0⟩, 0, false, []⟩
theorem q0_ok : qOk q0 = true := by decide +kernel
theorem q0_fine {E : Nat → Addr} {w : World} (hg : Ges E w) (hc : Caps w) : Fine E q0 none w := ⟨hg, hc, fun i hi => by show 0 < 256; omega, by decide, fun x hx => (by cases hx), by decide, by decide, Kd.C_nil pk w⟩
theorem q0_text : (⟨#[100, 111, 109, 97, 105, 110, 47]⟩ ++ strOfNums (escT (ints q0.name)) : ByteArray) = ⟨#[100, 111, 109, 97, 105, 110, 47, 97, 46, 99, 111, 109]⟩ := by kernel_rfl
def bootsA (sb : Nat) : Array Value := #[.int .i64 1, .int .i64 0, .int .i64 0, .slice (some ⟨sb, 0, none⟩) 1 1, .int .i64 0, .int .i64 0, .int .i64 0, .slice none 0 0, .int .i64 0, .int .i64 0, .int .i64 0, .slice none 0 0, .int .i64 0, .int .i64 0, .int .i64 0, .slice none 0 0]
theorem info_boots : (Tryz.prog.info? 46).map (·.size) = some 16 := by kernel_rfl
section
variable {ops : Array Oper} {rest : List Oper} {a : Act} {w : World} {Q : Exit → Act → World → Prop} {dst : Option Tmp} {x y : Operand} {ty : TypeId} {pos : String} {after : Array Edge} {b sb : Nat}
theorem wpl_load_boots (H : Row 46 b (bootsA sb) w) (hx : a.eval x = .pointer (some ⟨b, 0, none⟩)) (h : wpList Tryz.prog ops Q rest (a.put dst (.agg (bootsA sb))) w) :
    wpList Tryz.prog ops Q ({ dst := dst, op := .load 46 x, type := ty, pos := pos, after := after, guard := none } :: rest) a w :=
  wpList_load_row rfl 46 x rfl b hx 46 _ (0, 0) _ H Tryz.underlying46 rfl info_boots h
end
set_option maxHeartbeats 4000000 in
set_option maxRecDepth 100000 in
theorem Urls_any {E : Nat → Addr} (sb eb ub : Nat) (w : World) (hm : Boo sb eb ub w) (hg : Ges E w) :
    Calls Tryz.prog 27 #[.agg (bootsA sb), .agg (qryA q0 none 0)] w fun e w' => ∃ A c, e = .returned (.slice A 1 c) ∧ Hid (1 ≤ c ∧ Kd.string.C w' A 1 [tUrl]) ∧ Hid (Below w.heap.size w w') := by
  have HR : Hid (Row 46 w.heap.size (bootsA sb) ((w.alloc (.cells (bootsA sb) 46)).alloc (.cells (qryA q0 none 0) 30))) := Row.old (Row.new w _ _ rfl) _
  have H : Hid (QAt (w.heap.size + 1) q0 none 0 ((w.alloc (.cells (bootsA sb) 46)).alloc (.cells (qryA q0 none 0) 30))) := Row.new _ _ _ (by simp)
  have HB : Hid (Below w.heap.size w ((w.alloc (.cells (bootsA sb) 46)).alloc (.cells (qryA q0 none 0) 30))) := ((Below.refl _ _).alloc (Nat.le_refl _) _).alloc (by simp) _
  have HM := Lib.hid (hm.below HB.out)
  have HG := Lib.hid (hg.below HB.out)
  have HOK : Hid (qOk q0 = true) := q0_ok
  clear hm hg
  go_enter Tryz.func27, Tryz.ntmps27
  go_upto_region 1 with (fail)
  generalize (w.alloc (.cells (bootsA sb) 46)).alloc (.cells (qryA q0 none 0) 30) = w0 at *
  go_wp2_with (first | ((with_reducible refine wpl_load_qry H.out ?hx ?_); (case hx => rfl)))
  refine (find_Check_any (E := E) q0 (fun i hi => by show 0 < 256; omega) none 0 _ HG.out (by decide)).mono ?_
  rintro e w1 ⟨⟨ho, rfl⟩ | ⟨ho, p, rfl⟩, h1⟩
  rotate_left
  · rw [HOK.out] at ho; cases ho
  have H1 := Lib.hid (H.out.below h1.out)
  have HR1 := Lib.hid (HR.out.below h1.out)
  have HB1 := Lib.hid (below_then HB.out HB.out.size h1.out)
  have HM1 := Lib.hid (HM.out.below h1.out)
  clear H HR HB HM HG ho h1 HOK
  have k0 : w1.cell? ⟨w.heap.size + 1, 0, none⟩ = some (.int .i64 2) := H1.out.kind
  have k2 : w1.cell? ⟨w.heap.size + 1, 2, none⟩ = some (.string ⟨#[97, 46, 99, 111, 109]⟩) := H1.out.name
  have c0 := HR1.out.cell 0 _ rfl
  have c1 := HR1.out.cell 1 _ rfl
  have c2 := HR1.out.cell 2 _ rfl
  have c3 := HR1.out.cell 3 _ rfl
  have HFN := Lib.hid (ForName_any sb eb ub w1 HM1.out)
  go_wp2_with fail
  refine HFN.out.mono ?_
  rintro e w2 ⟨A, c, rfl, h1, h2⟩
  have HB2 := Lib.hid (below_then HB1.out HB1.out.size h2.out)
  clear k0 k2 c0 c1 c2 c3
  go_wp2_with fail
  go_ret
  exact ⟨A, c, rfl, h1, HB2⟩
end Go.Proofs.YtngokkebjadoiaaGreatDoor

