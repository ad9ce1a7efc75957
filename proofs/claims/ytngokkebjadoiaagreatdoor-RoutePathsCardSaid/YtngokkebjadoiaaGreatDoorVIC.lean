/- What the claim uses of the text IC. -/
import Derived.Test.YtngokkebjadoiaaGreatDoorVH1
set_option linter.unusedVariables false
set_option linter.unusedSimpArgs false
namespace Go.Proofs.YtngokkebjadoiaaGreatDoor
open Go.RowKit Go.PlainAid
open Go.Proofs.YtngokkebjadoiaaGreatDoorW.PrintWords hiding bt
open Go.Proofs.YtngokkebjadoiaaGreatDoorW.PrintMore

set_option maxHeartbeats 4000000 in
set_option maxRecDepth 100000 in
theorem begin_k1 (q : QV) (A : Option Addr) (c : Nat) (w : World) (hk : q.kind = 1) :
    Calls Tryz.prog 10 #[.agg (qryA q A c)] w fun e w' => e = .returned (.string ⟨#[104, 101, 108, 112]⟩) ∧ Hid (Below w.heap.size w w') := by
  have H : Hid (QAt w.heap.size q A c (w.alloc (.cells (qryA q A c) 30))) := Row.new w _ _ rfl
  have HB : Hid (Below w.heap.size w (w.alloc (.cells (qryA q A c) 30))) := (Below.refl _ _).alloc (Nat.le_refl _) _
  have HM : Hid (manyQ q.kind = false) := by show _ = _; rw [hk]; rfl
  go_enter Tryz.func10, Tryz.ntmps10
  go_upto_region 1 with (fail)
  generalize w.alloc (.cells (qryA q A c) 30) = w0 at *
  have HVa : Hid (Row 65 w0.heap.size #[.string ⟨#[]⟩, .string ⟨#[]⟩, .string ⟨#[]⟩, .string ⟨#[]⟩, .string ⟨#[]⟩, .string ⟨#[]⟩, .string ⟨#[]⟩, .string ⟨#[]⟩, .string ⟨#[]⟩, .string ⟨#[]⟩] (w0.alloc (.cells #[.string ⟨#[]⟩, .string ⟨#[]⟩, .string ⟨#[]⟩, .string ⟨#[]⟩, .string ⟨#[]⟩, .string ⟨#[]⟩, .string ⟨#[]⟩, .string ⟨#[]⟩, .string ⟨#[]⟩, .string ⟨#[]⟩] 65))) := Row.new w0 _ _ rfl
  have HBa : Hid (Below w.heap.size w (w0.alloc (.cells #[.string ⟨#[]⟩, .string ⟨#[]⟩, .string ⟨#[]⟩, .string ⟨#[]⟩, .string ⟨#[]⟩, .string ⟨#[]⟩, .string ⟨#[]⟩, .string ⟨#[]⟩, .string ⟨#[]⟩, .string ⟨#[]⟩] 65))) := HB.out.alloc HB.out.size _
  have Ha : Hid (QAt w.heap.size q A c (w0.alloc (.cells #[.string ⟨#[]⟩, .string ⟨#[]⟩, .string ⟨#[]⟩, .string ⟨#[]⟩, .string ⟨#[]⟩, .string ⟨#[]⟩, .string ⟨#[]⟩, .string ⟨#[]⟩, .string ⟨#[]⟩, .string ⟨#[]⟩] 65))) := H.out.old _
  have hlt0 : w.heap.size < w0.heap.size := H.out.lt
  go_upto_region 2 with (first | ((with_reducible refine wpl_put (t := 65) (n := 10) (by kernel_rfl) (cs := ?_) HVa.out rfl ?hx ?hy ?hs ?hz ?_); (case hx => rfl); (case hy => rfl); (case hs => rfl); (case hz => (simp [Value.oneCell']; done)); intro w2 hrw2 hww2))
  have HR2 := Lib.hid hrw2
  have H2 : Hid (QAt w.heap.size q A c w2) := hww2.row Ha.out (by omega)
  have HB2 := Lib.hid (hww2.below HBa.out (by omega))
  have hsz2 : w2.heap.size = w0.heap.size + 1 := by rw [hww2.size]; simp
  clear hrw2 hww2 HVa HBa Ha H HB
  have H3 : Hid (QAt w.heap.size q A c (w2.alloc (.cells #[.string ⟨#[]⟩, .string ⟨#[110, 97, 109, 101, 61]⟩, .string ⟨#[110, 115, 76, 100, 104, 78, 97, 109, 101, 61]⟩, .string ⟨#[110, 115, 73, 112, 61]⟩, .string ⟨#[102, 110, 61]⟩, .string ⟨#[104, 97, 110, 100, 108, 101, 61]⟩] 59))) := H2.out.old _
  have HB3 : Hid (Below w.heap.size w (w2.alloc (.cells #[.string ⟨#[]⟩, .string ⟨#[110, 97, 109, 101, 61]⟩, .string ⟨#[110, 115, 76, 100, 104, 78, 97, 109, 101, 61]⟩, .string ⟨#[110, 115, 73, 112, 61]⟩, .string ⟨#[102, 110, 61]⟩, .string ⟨#[104, 97, 110, 100, 108, 101, 61]⟩] 59))) := HB2.out.alloc HB2.out.size _
  have x1 := (HR2.out.old (.cells #[.string ⟨#[]⟩, .string ⟨#[110, 97, 109, 101, 61]⟩, .string ⟨#[110, 115, 76, 100, 104, 78, 97, 109, 101, 61]⟩, .string ⟨#[110, 115, 73, 112, 61]⟩, .string ⟨#[102, 110, 61]⟩, .string ⟨#[104, 97, 110, 100, 108, 101, 61]⟩] 59)).cell 1 _ rfl
  have HX2 : Hid (Row 59 w2.heap.size #[.string ⟨#[]⟩, .string ⟨#[110, 97, 109, 101, 61]⟩, .string ⟨#[110, 115, 76, 100, 104, 78, 97, 109, 101, 61]⟩, .string ⟨#[110, 115, 73, 112, 61]⟩, .string ⟨#[102, 110, 61]⟩, .string ⟨#[104, 97, 110, 100, 108, 101, 61]⟩] (w2.alloc (.cells #[.string ⟨#[]⟩, .string ⟨#[110, 97, 109, 101, 61]⟩, .string ⟨#[110, 115, 76, 100, 104, 78, 97, 109, 101, 61]⟩, .string ⟨#[110, 115, 73, 112, 61]⟩, .string ⟨#[102, 110, 61]⟩, .string ⟨#[104, 97, 110, 100, 108, 101, 61]⟩] 59))) := Row.new w2 _ _ rfl
  go_upto_region 3 with (fail)
  generalize w2.alloc (.cells #[.string ⟨#[]⟩, .string ⟨#[110, 97, 109, 101, 61]⟩, .string ⟨#[110, 115, 76, 100, 104, 78, 97, 109, 101, 61]⟩, .string ⟨#[110, 115, 73, 112, 61]⟩, .string ⟨#[102, 110, 61]⟩, .string ⟨#[104, 97, 110, 100, 108, 101, 61]⟩] 59) = w3 at *
  clear HX2 HR2 H2 HB2
  have c0 := H3.out.kind
  have c1 := H3.out.by_
  rw [hk] at c0
  clear hk
  go_wp2_with (first | ((with_reducible refine wpl_load_qry H3.out ?hx ?_); (case hx => rfl)))
  refine (Many_any q A c _).mono ?_
  rintro e w4 ⟨rfl, h4⟩
  rw [HM.out]
  have HB4 := Lib.hid (below_then HB3.out HB3.out.size h4.out)
  clear c0 x1 c1
  go_wp2_with fail
  go_ret
  exact ⟨by rfl, HB4⟩

set_option maxHeartbeats 4000000 in
set_option maxRecDepth 100000 in
theorem begin_k2 (q : QV) (A : Option Addr) (c : Nat) (w : World) (hk : q.kind = 2) :
    Calls Tryz.prog 10 #[.agg (qryA q A c)] w fun e w' => e = .returned (.string ⟨#[100, 111, 109, 97, 105, 110, 47]⟩) ∧ Hid (Below w.heap.size w w') := by
  have H : Hid (QAt w.heap.size q A c (w.alloc (.cells (qryA q A c) 30))) := Row.new w _ _ rfl
  have HB : Hid (Below w.heap.size w (w.alloc (.cells (qryA q A c) 30))) := (Below.refl _ _).alloc (Nat.le_refl _) _
  have HM : Hid (manyQ q.kind = false) := by show _ = _; rw [hk]; rfl
  go_enter Tryz.func10, Tryz.ntmps10
  go_upto_region 1 with (fail)
  generalize w.alloc (.cells (qryA q A c) 30) = w0 at *
  have HVa : Hid (Row 65 w0.heap.size #[.string ⟨#[]⟩, .string ⟨#[]⟩, .string ⟨#[]⟩, .string ⟨#[]⟩, .string ⟨#[]⟩, .string ⟨#[]⟩, .string ⟨#[]⟩, .string ⟨#[]⟩, .string ⟨#[]⟩, .string ⟨#[]⟩] (w0.alloc (.cells #[.string ⟨#[]⟩, .string ⟨#[]⟩, .string ⟨#[]⟩, .string ⟨#[]⟩, .string ⟨#[]⟩, .string ⟨#[]⟩, .string ⟨#[]⟩, .string ⟨#[]⟩, .string ⟨#[]⟩, .string ⟨#[]⟩] 65))) := Row.new w0 _ _ rfl
  have HBa : Hid (Below w.heap.size w (w0.alloc (.cells #[.string ⟨#[]⟩, .string ⟨#[]⟩, .string ⟨#[]⟩, .string ⟨#[]⟩, .string ⟨#[]⟩, .string ⟨#[]⟩, .string ⟨#[]⟩, .string ⟨#[]⟩, .string ⟨#[]⟩, .string ⟨#[]⟩] 65))) := HB.out.alloc HB.out.size _
  have Ha : Hid (QAt w.heap.size q A c (w0.alloc (.cells #[.string ⟨#[]⟩, .string ⟨#[]⟩, .string ⟨#[]⟩, .string ⟨#[]⟩, .string ⟨#[]⟩, .string ⟨#[]⟩, .string ⟨#[]⟩, .string ⟨#[]⟩, .string ⟨#[]⟩, .string ⟨#[]⟩] 65))) := H.out.old _
  have hlt0 : w.heap.size < w0.heap.size := H.out.lt
  go_upto_region 2 with (first | ((with_reducible refine wpl_put (t := 65) (n := 10) (by kernel_rfl) (cs := ?_) HVa.out rfl ?hx ?hy ?hs ?hz ?_); (case hx => rfl); (case hy => rfl); (case hs => rfl); (case hz => (simp [Value.oneCell']; done)); intro w2 hrw2 hww2))
  have HR2 := Lib.hid hrw2
  have H2 : Hid (QAt w.heap.size q A c w2) := hww2.row Ha.out (by omega)
  have HB2 := Lib.hid (hww2.below HBa.out (by omega))
  have hsz2 : w2.heap.size = w0.heap.size + 1 := by rw [hww2.size]; simp
  clear hrw2 hww2 HVa HBa Ha H HB
  have H3 : Hid (QAt w.heap.size q A c (w2.alloc (.cells #[.string ⟨#[]⟩, .string ⟨#[110, 97, 109, 101, 61]⟩, .string ⟨#[110, 115, 76, 100, 104, 78, 97, 109, 101, 61]⟩, .string ⟨#[110, 115, 73, 112, 61]⟩, .string ⟨#[102, 110, 61]⟩, .string ⟨#[104, 97, 110, 100, 108, 101, 61]⟩] 59))) := H2.out.old _
  have HB3 : Hid (Below w.heap.size w (w2.alloc (.cells #[.string ⟨#[]⟩, .string ⟨#[110, 97, 109, 101, 61]⟩, .string ⟨#[110, 115, 76, 100, 104, 78, 97, 109, 101, 61]⟩, .string ⟨#[110, 115, 73, 112, 61]⟩, .string ⟨#[102, 110, 61]⟩, .string ⟨#[104, 97, 110, 100, 108, 101, 61]⟩] 59))) := HB2.out.alloc HB2.out.size _
  have x1 := (HR2.out.old (.cells #[.string ⟨#[]⟩, .string ⟨#[110, 97, 109, 101, 61]⟩, .string ⟨#[110, 115, 76, 100, 104, 78, 97, 109, 101, 61]⟩, .string ⟨#[110, 115, 73, 112, 61]⟩, .string ⟨#[102, 110, 61]⟩, .string ⟨#[104, 97, 110, 100, 108, 101, 61]⟩] 59)).cell 2 _ rfl
  have HX2 : Hid (Row 59 w2.heap.size #[.string ⟨#[]⟩, .string ⟨#[110, 97, 109, 101, 61]⟩, .string ⟨#[110, 115, 76, 100, 104, 78, 97, 109, 101, 61]⟩, .string ⟨#[110, 115, 73, 112, 61]⟩, .string ⟨#[102, 110, 61]⟩, .string ⟨#[104, 97, 110, 100, 108, 101, 61]⟩] (w2.alloc (.cells #[.string ⟨#[]⟩, .string ⟨#[110, 97, 109, 101, 61]⟩, .string ⟨#[110, 115, 76, 100, 104, 78, 97, 109, 101, 61]⟩, .string ⟨#[110, 115, 73, 112, 61]⟩, .string ⟨#[102, 110, 61]⟩, .string ⟨#[104, 97, 110, 100, 108, 101, 61]⟩] 59))) := Row.new w2 _ _ rfl
  go_upto_region 3 with (fail)
  generalize w2.alloc (.cells #[.string ⟨#[]⟩, .string ⟨#[110, 97, 109, 101, 61]⟩, .string ⟨#[110, 115, 76, 100, 104, 78, 97, 109, 101, 61]⟩, .string ⟨#[110, 115, 73, 112, 61]⟩, .string ⟨#[102, 110, 61]⟩, .string ⟨#[104, 97, 110, 100, 108, 101, 61]⟩] 59) = w3 at *
  clear HX2 HR2 H2 HB2
  have c0 := H3.out.kind
  have c1 := H3.out.by_
  rw [hk] at c0
  clear hk
  go_wp2_with (first | ((with_reducible refine wpl_load_qry H3.out ?hx ?_); (case hx => rfl)))
  refine (Many_any q A c _).mono ?_
  rintro e w4 ⟨rfl, h4⟩
  rw [HM.out]
  have HB4 := Lib.hid (below_then HB3.out HB3.out.size h4.out)
  clear c0 x1 c1
  go_wp2_with fail
  go_ret
  exact ⟨by rfl, HB4⟩

set_option maxHeartbeats 4000000 in
set_option maxRecDepth 100000 in
theorem begin_k3 (q : QV) (A : Option Addr) (c : Nat) (w : World) (hk : q.kind = 3) :
    Calls Tryz.prog 10 #[.agg (qryA q A c)] w fun e w' => e = .returned (.string ⟨#[110, 97, 109, 101, 115, 101, 114, 118, 101, 114, 47]⟩) ∧ Hid (Below w.heap.size w w') := by
  have H : Hid (QAt w.heap.size q A c (w.alloc (.cells (qryA q A c) 30))) := Row.new w _ _ rfl
  have HB : Hid (Below w.heap.size w (w.alloc (.cells (qryA q A c) 30))) := (Below.refl _ _).alloc (Nat.le_refl _) _
  have HM : Hid (manyQ q.kind = false) := by show _ = _; rw [hk]; rfl
  go_enter Tryz.func10, Tryz.ntmps10
  go_upto_region 1 with (fail)
  generalize w.alloc (.cells (qryA q A c) 30) = w0 at *
  have HVa : Hid (Row 65 w0.heap.size #[.string ⟨#[]⟩, .string ⟨#[]⟩, .string ⟨#[]⟩, .string ⟨#[]⟩, .string ⟨#[]⟩, .string ⟨#[]⟩, .string ⟨#[]⟩, .string ⟨#[]⟩, .string ⟨#[]⟩, .string ⟨#[]⟩] (w0.alloc (.cells #[.string ⟨#[]⟩, .string ⟨#[]⟩, .string ⟨#[]⟩, .string ⟨#[]⟩, .string ⟨#[]⟩, .string ⟨#[]⟩, .string ⟨#[]⟩, .string ⟨#[]⟩, .string ⟨#[]⟩, .string ⟨#[]⟩] 65))) := Row.new w0 _ _ rfl
  have HBa : Hid (Below w.heap.size w (w0.alloc (.cells #[.string ⟨#[]⟩, .string ⟨#[]⟩, .string ⟨#[]⟩, .string ⟨#[]⟩, .string ⟨#[]⟩, .string ⟨#[]⟩, .string ⟨#[]⟩, .string ⟨#[]⟩, .string ⟨#[]⟩, .string ⟨#[]⟩] 65))) := HB.out.alloc HB.out.size _
  have Ha : Hid (QAt w.heap.size q A c (w0.alloc (.cells #[.string ⟨#[]⟩, .string ⟨#[]⟩, .string ⟨#[]⟩, .string ⟨#[]⟩, .string ⟨#[]⟩, .string ⟨#[]⟩, .string ⟨#[]⟩, .string ⟨#[]⟩, .string ⟨#[]⟩, .string ⟨#[]⟩] 65))) := H.out.old _
  have hlt0 : w.heap.size < w0.heap.size := H.out.lt
  go_upto_region 2 with (first | ((with_reducible refine wpl_put (t := 65) (n := 10) (by kernel_rfl) (cs := ?_) HVa.out rfl ?hx ?hy ?hs ?hz ?_); (case hx => rfl); (case hy => rfl); (case hs => rfl); (case hz => (simp [Value.oneCell']; done)); intro w2 hrw2 hww2))
  have HR2 := Lib.hid hrw2
  have H2 : Hid (QAt w.heap.size q A c w2) := hww2.row Ha.out (by omega)
  have HB2 := Lib.hid (hww2.below HBa.out (by omega))
  have hsz2 : w2.heap.size = w0.heap.size + 1 := by rw [hww2.size]; simp
  clear hrw2 hww2 HVa HBa Ha H HB
  have H3 : Hid (QAt w.heap.size q A c (w2.alloc (.cells #[.string ⟨#[]⟩, .string ⟨#[110, 97, 109, 101, 61]⟩, .string ⟨#[110, 115, 76, 100, 104, 78, 97, 109, 101, 61]⟩, .string ⟨#[110, 115, 73, 112, 61]⟩, .string ⟨#[102, 110, 61]⟩, .string ⟨#[104, 97, 110, 100, 108, 101, 61]⟩] 59))) := H2.out.old _
  have HB3 : Hid (Below w.heap.size w (w2.alloc (.cells #[.string ⟨#[]⟩, .string ⟨#[110, 97, 109, 101, 61]⟩, .string ⟨#[110, 115, 76, 100, 104, 78, 97, 109, 101, 61]⟩, .string ⟨#[110, 115, 73, 112, 61]⟩, .string ⟨#[102, 110, 61]⟩, .string ⟨#[104, 97, 110, 100, 108, 101, 61]⟩] 59))) := HB2.out.alloc HB2.out.size _
  have x1 := (HR2.out.old (.cells #[.string ⟨#[]⟩, .string ⟨#[110, 97, 109, 101, 61]⟩, .string ⟨#[110, 115, 76, 100, 104, 78, 97, 109, 101, 61]⟩, .string ⟨#[110, 115, 73, 112, 61]⟩, .string ⟨#[102, 110, 61]⟩, .string ⟨#[104, 97, 110, 100, 108, 101, 61]⟩] 59)).cell 3 _ rfl
  have HX2 : Hid (Row 59 w2.heap.size #[.string ⟨#[]⟩, .string ⟨#[110, 97, 109, 101, 61]⟩, .string ⟨#[110, 115, 76, 100, 104, 78, 97, 109, 101, 61]⟩, .string ⟨#[110, 115, 73, 112, 61]⟩, .string ⟨#[102, 110, 61]⟩, .string ⟨#[104, 97, 110, 100, 108, 101, 61]⟩] (w2.alloc (.cells #[.string ⟨#[]⟩, .string ⟨#[110, 97, 109, 101, 61]⟩, .string ⟨#[110, 115, 76, 100, 104, 78, 97, 109, 101, 61]⟩, .string ⟨#[110, 115, 73, 112, 61]⟩, .string ⟨#[102, 110, 61]⟩, .string ⟨#[104, 97, 110, 100, 108, 101, 61]⟩] 59))) := Row.new w2 _ _ rfl
  go_upto_region 3 with (fail)
  generalize w2.alloc (.cells #[.string ⟨#[]⟩, .string ⟨#[110, 97, 109, 101, 61]⟩, .string ⟨#[110, 115, 76, 100, 104, 78, 97, 109, 101, 61]⟩, .string ⟨#[110, 115, 73, 112, 61]⟩, .string ⟨#[102, 110, 61]⟩, .string ⟨#[104, 97, 110, 100, 108, 101, 61]⟩] 59) = w3 at *
  clear HX2 HR2 H2 HB2
  have c0 := H3.out.kind
  have c1 := H3.out.by_
  rw [hk] at c0
  clear hk
  go_wp2_with (first | ((with_reducible refine wpl_load_qry H3.out ?hx ?_); (case hx => rfl)))
  refine (Many_any q A c _).mono ?_
  rintro e w4 ⟨rfl, h4⟩
  rw [HM.out]
  have HB4 := Lib.hid (below_then HB3.out HB3.out.size h4.out)
  clear c0 x1 c1
  go_wp2_with fail
  go_ret
  exact ⟨by rfl, HB4⟩

set_option maxHeartbeats 4000000 in
set_option maxRecDepth 100000 in
theorem begin_k4 (q : QV) (A : Option Addr) (c : Nat) (w : World) (hk : q.kind = 4) :
    Calls Tryz.prog 10 #[.agg (qryA q A c)] w fun e w' => e = .returned (.string ⟨#[101, 110, 116, 105, 116, 121, 47]⟩) ∧ Hid (Below w.heap.size w w') := by
  have H : Hid (QAt w.heap.size q A c (w.alloc (.cells (qryA q A c) 30))) := Row.new w _ _ rfl
  have HB : Hid (Below w.heap.size w (w.alloc (.cells (qryA q A c) 30))) := (Below.refl _ _).alloc (Nat.le_refl _) _
  have HM : Hid (manyQ q.kind = false) := by show _ = _; rw [hk]; rfl
  go_enter Tryz.func10, Tryz.ntmps10
  go_upto_region 1 with (fail)
  generalize w.alloc (.cells (qryA q A c) 30) = w0 at *
  have HVa : Hid (Row 65 w0.heap.size #[.string ⟨#[]⟩, .string ⟨#[]⟩, .string ⟨#[]⟩, .string ⟨#[]⟩, .string ⟨#[]⟩, .string ⟨#[]⟩, .string ⟨#[]⟩, .string ⟨#[]⟩, .string ⟨#[]⟩, .string ⟨#[]⟩] (w0.alloc (.cells #[.string ⟨#[]⟩, .string ⟨#[]⟩, .string ⟨#[]⟩, .string ⟨#[]⟩, .string ⟨#[]⟩, .string ⟨#[]⟩, .string ⟨#[]⟩, .string ⟨#[]⟩, .string ⟨#[]⟩, .string ⟨#[]⟩] 65))) := Row.new w0 _ _ rfl
  have HBa : Hid (Below w.heap.size w (w0.alloc (.cells #[.string ⟨#[]⟩, .string ⟨#[]⟩, .string ⟨#[]⟩, .string ⟨#[]⟩, .string ⟨#[]⟩, .string ⟨#[]⟩, .string ⟨#[]⟩, .string ⟨#[]⟩, .string ⟨#[]⟩, .string ⟨#[]⟩] 65))) := HB.out.alloc HB.out.size _
  have Ha : Hid (QAt w.heap.size q A c (w0.alloc (.cells #[.string ⟨#[]⟩, .string ⟨#[]⟩, .string ⟨#[]⟩, .string ⟨#[]⟩, .string ⟨#[]⟩, .string ⟨#[]⟩, .string ⟨#[]⟩, .string ⟨#[]⟩, .string ⟨#[]⟩, .string ⟨#[]⟩] 65))) := H.out.old _
  have hlt0 : w.heap.size < w0.heap.size := H.out.lt
  go_upto_region 2 with (first | ((with_reducible refine wpl_put (t := 65) (n := 10) (by kernel_rfl) (cs := ?_) HVa.out rfl ?hx ?hy ?hs ?hz ?_); (case hx => rfl); (case hy => rfl); (case hs => rfl); (case hz => (simp [Value.oneCell']; done)); intro w2 hrw2 hww2))
  have HR2 := Lib.hid hrw2
  have H2 : Hid (QAt w.heap.size q A c w2) := hww2.row Ha.out (by omega)
  have HB2 := Lib.hid (hww2.below HBa.out (by omega))
  have hsz2 : w2.heap.size = w0.heap.size + 1 := by rw [hww2.size]; simp
  clear hrw2 hww2 HVa HBa Ha H HB
  have H3 : Hid (QAt w.heap.size q A c (w2.alloc (.cells #[.string ⟨#[]⟩, .string ⟨#[110, 97, 109, 101, 61]⟩, .string ⟨#[110, 115, 76, 100, 104, 78, 97, 109, 101, 61]⟩, .string ⟨#[110, 115, 73, 112, 61]⟩, .string ⟨#[102, 110, 61]⟩, .string ⟨#[104, 97, 110, 100, 108, 101, 61]⟩] 59))) := H2.out.old _
  have HB3 : Hid (Below w.heap.size w (w2.alloc (.cells #[.string ⟨#[]⟩, .string ⟨#[110, 97, 109, 101, 61]⟩, .string ⟨#[110, 115, 76, 100, 104, 78, 97, 109, 101, 61]⟩, .string ⟨#[110, 115, 73, 112, 61]⟩, .string ⟨#[102, 110, 61]⟩, .string ⟨#[104, 97, 110, 100, 108, 101, 61]⟩] 59))) := HB2.out.alloc HB2.out.size _
  have x1 := (HR2.out.old (.cells #[.string ⟨#[]⟩, .string ⟨#[110, 97, 109, 101, 61]⟩, .string ⟨#[110, 115, 76, 100, 104, 78, 97, 109, 101, 61]⟩, .string ⟨#[110, 115, 73, 112, 61]⟩, .string ⟨#[102, 110, 61]⟩, .string ⟨#[104, 97, 110, 100, 108, 101, 61]⟩] 59)).cell 4 _ rfl
  have HX2 : Hid (Row 59 w2.heap.size #[.string ⟨#[]⟩, .string ⟨#[110, 97, 109, 101, 61]⟩, .string ⟨#[110, 115, 76, 100, 104, 78, 97, 109, 101, 61]⟩, .string ⟨#[110, 115, 73, 112, 61]⟩, .string ⟨#[102, 110, 61]⟩, .string ⟨#[104, 97, 110, 100, 108, 101, 61]⟩] (w2.alloc (.cells #[.string ⟨#[]⟩, .string ⟨#[110, 97, 109, 101, 61]⟩, .string ⟨#[110, 115, 76, 100, 104, 78, 97, 109, 101, 61]⟩, .string ⟨#[110, 115, 73, 112, 61]⟩, .string ⟨#[102, 110, 61]⟩, .string ⟨#[104, 97, 110, 100, 108, 101, 61]⟩] 59))) := Row.new w2 _ _ rfl
  go_upto_region 3 with (fail)
  generalize w2.alloc (.cells #[.string ⟨#[]⟩, .string ⟨#[110, 97, 109, 101, 61]⟩, .string ⟨#[110, 115, 76, 100, 104, 78, 97, 109, 101, 61]⟩, .string ⟨#[110, 115, 73, 112, 61]⟩, .string ⟨#[102, 110, 61]⟩, .string ⟨#[104, 97, 110, 100, 108, 101, 61]⟩] 59) = w3 at *
  clear HX2 HR2 H2 HB2
  have c0 := H3.out.kind
  have c1 := H3.out.by_
  rw [hk] at c0
  clear hk
  go_wp2_with (first | ((with_reducible refine wpl_load_qry H3.out ?hx ?_); (case hx => rfl)))
  refine (Many_any q A c _).mono ?_
  rintro e w4 ⟨rfl, h4⟩
  rw [HM.out]
  have HB4 := Lib.hid (below_then HB3.out HB3.out.size h4.out)
  clear c0 x1 c1
  go_wp2_with fail
  go_ret
  exact ⟨by rfl, HB4⟩

set_option maxHeartbeats 4000000 in
set_option maxRecDepth 100000 in
theorem begin_k5 (q : QV) (A : Option Addr) (c : Nat) (w : World) (hk : q.kind = 5) :
    Calls Tryz.prog 10 #[.agg (qryA q A c)] w fun e w' => e = .returned (.string ⟨#[105, 112, 47]⟩) ∧ Hid (Below w.heap.size w w') := by
  have H : Hid (QAt w.heap.size q A c (w.alloc (.cells (qryA q A c) 30))) := Row.new w _ _ rfl
  have HB : Hid (Below w.heap.size w (w.alloc (.cells (qryA q A c) 30))) := (Below.refl _ _).alloc (Nat.le_refl _) _
  have HM : Hid (manyQ q.kind = false) := by show _ = _; rw [hk]; rfl
  go_enter Tryz.func10, Tryz.ntmps10
  go_upto_region 1 with (fail)
  generalize w.alloc (.cells (qryA q A c) 30) = w0 at *
  have HVa : Hid (Row 65 w0.heap.size #[.string ⟨#[]⟩, .string ⟨#[]⟩, .string ⟨#[]⟩, .string ⟨#[]⟩, .string ⟨#[]⟩, .string ⟨#[]⟩, .string ⟨#[]⟩, .string ⟨#[]⟩, .string ⟨#[]⟩, .string ⟨#[]⟩] (w0.alloc (.cells #[.string ⟨#[]⟩, .string ⟨#[]⟩, .string ⟨#[]⟩, .string ⟨#[]⟩, .string ⟨#[]⟩, .string ⟨#[]⟩, .string ⟨#[]⟩, .string ⟨#[]⟩, .string ⟨#[]⟩, .string ⟨#[]⟩] 65))) := Row.new w0 _ _ rfl
  have HBa : Hid (Below w.heap.size w (w0.alloc (.cells #[.string ⟨#[]⟩, .string ⟨#[]⟩, .string ⟨#[]⟩, .string ⟨#[]⟩, .string ⟨#[]⟩, .string ⟨#[]⟩, .string ⟨#[]⟩, .string ⟨#[]⟩, .string ⟨#[]⟩, .string ⟨#[]⟩] 65))) := HB.out.alloc HB.out.size _
  have Ha : Hid (QAt w.heap.size q A c (w0.alloc (.cells #[.string ⟨#[]⟩, .string ⟨#[]⟩, .string ⟨#[]⟩, .string ⟨#[]⟩, .string ⟨#[]⟩, .string ⟨#[]⟩, .string ⟨#[]⟩, .string ⟨#[]⟩, .string ⟨#[]⟩, .string ⟨#[]⟩] 65))) := H.out.old _
  have hlt0 : w.heap.size < w0.heap.size := H.out.lt
  go_upto_region 2 with (first | ((with_reducible refine wpl_put (t := 65) (n := 10) (by kernel_rfl) (cs := ?_) HVa.out rfl ?hx ?hy ?hs ?hz ?_); (case hx => rfl); (case hy => rfl); (case hs => rfl); (case hz => (simp [Value.oneCell']; done)); intro w2 hrw2 hww2))
  have HR2 := Lib.hid hrw2
  have H2 : Hid (QAt w.heap.size q A c w2) := hww2.row Ha.out (by omega)
  have HB2 := Lib.hid (hww2.below HBa.out (by omega))
  have hsz2 : w2.heap.size = w0.heap.size + 1 := by rw [hww2.size]; simp
  clear hrw2 hww2 HVa HBa Ha H HB
  have H3 : Hid (QAt w.heap.size q A c (w2.alloc (.cells #[.string ⟨#[]⟩, .string ⟨#[110, 97, 109, 101, 61]⟩, .string ⟨#[110, 115, 76, 100, 104, 78, 97, 109, 101, 61]⟩, .string ⟨#[110, 115, 73, 112, 61]⟩, .string ⟨#[102, 110, 61]⟩, .string ⟨#[104, 97, 110, 100, 108, 101, 61]⟩] 59))) := H2.out.old _
  have HB3 : Hid (Below w.heap.size w (w2.alloc (.cells #[.string ⟨#[]⟩, .string ⟨#[110, 97, 109, 101, 61]⟩, .string ⟨#[110, 115, 76, 100, 104, 78, 97, 109, 101, 61]⟩, .string ⟨#[110, 115, 73, 112, 61]⟩, .string ⟨#[102, 110, 61]⟩, .string ⟨#[104, 97, 110, 100, 108, 101, 61]⟩] 59))) := HB2.out.alloc HB2.out.size _
  have x1 := (HR2.out.old (.cells #[.string ⟨#[]⟩, .string ⟨#[110, 97, 109, 101, 61]⟩, .string ⟨#[110, 115, 76, 100, 104, 78, 97, 109, 101, 61]⟩, .string ⟨#[110, 115, 73, 112, 61]⟩, .string ⟨#[102, 110, 61]⟩, .string ⟨#[104, 97, 110, 100, 108, 101, 61]⟩] 59)).cell 5 _ rfl
  have HX2 : Hid (Row 59 w2.heap.size #[.string ⟨#[]⟩, .string ⟨#[110, 97, 109, 101, 61]⟩, .string ⟨#[110, 115, 76, 100, 104, 78, 97, 109, 101, 61]⟩, .string ⟨#[110, 115, 73, 112, 61]⟩, .string ⟨#[102, 110, 61]⟩, .string ⟨#[104, 97, 110, 100, 108, 101, 61]⟩] (w2.alloc (.cells #[.string ⟨#[]⟩, .string ⟨#[110, 97, 109, 101, 61]⟩, .string ⟨#[110, 115, 76, 100, 104, 78, 97, 109, 101, 61]⟩, .string ⟨#[110, 115, 73, 112, 61]⟩, .string ⟨#[102, 110, 61]⟩, .string ⟨#[104, 97, 110, 100, 108, 101, 61]⟩] 59))) := Row.new w2 _ _ rfl
  go_upto_region 3 with (fail)
  generalize w2.alloc (.cells #[.string ⟨#[]⟩, .string ⟨#[110, 97, 109, 101, 61]⟩, .string ⟨#[110, 115, 76, 100, 104, 78, 97, 109, 101, 61]⟩, .string ⟨#[110, 115, 73, 112, 61]⟩, .string ⟨#[102, 110, 61]⟩, .string ⟨#[104, 97, 110, 100, 108, 101, 61]⟩] 59) = w3 at *
  clear HX2 HR2 H2 HB2
  have c0 := H3.out.kind
  have c1 := H3.out.by_
  rw [hk] at c0
  clear hk
  go_wp2_with (first | ((with_reducible refine wpl_load_qry H3.out ?hx ?_); (case hx => rfl)))
  refine (Many_any q A c _).mono ?_
  rintro e w4 ⟨rfl, h4⟩
  rw [HM.out]
  have HB4 := Lib.hid (below_then HB3.out HB3.out.size h4.out)
  clear c0 x1 c1
  go_wp2_with fail
  go_ret
  exact ⟨by rfl, HB4⟩

set_option maxHeartbeats 4000000 in
set_option maxRecDepth 100000 in
theorem begin_k6 (q : QV) (A : Option Addr) (c : Nat) (w : World) (hk : q.kind = 6) :
    Calls Tryz.prog 10 #[.agg (qryA q A c)] w fun e w' => e = .returned (.string ⟨#[97, 117, 116, 110, 117, 109, 47]⟩) ∧ Hid (Below w.heap.size w w') := by
  have H : Hid (QAt w.heap.size q A c (w.alloc (.cells (qryA q A c) 30))) := Row.new w _ _ rfl
  have HB : Hid (Below w.heap.size w (w.alloc (.cells (qryA q A c) 30))) := (Below.refl _ _).alloc (Nat.le_refl _) _
  have HM : Hid (manyQ q.kind = false) := by show _ = _; rw [hk]; rfl
  go_enter Tryz.func10, Tryz.ntmps10
  go_upto_region 1 with (fail)
  generalize w.alloc (.cells (qryA q A c) 30) = w0 at *
  have HVa : Hid (Row 65 w0.heap.size #[.string ⟨#[]⟩, .string ⟨#[]⟩, .string ⟨#[]⟩, .string ⟨#[]⟩, .string ⟨#[]⟩, .string ⟨#[]⟩, .string ⟨#[]⟩, .string ⟨#[]⟩, .string ⟨#[]⟩, .string ⟨#[]⟩] (w0.alloc (.cells #[.string ⟨#[]⟩, .string ⟨#[]⟩, .string ⟨#[]⟩, .string ⟨#[]⟩, .string ⟨#[]⟩, .string ⟨#[]⟩, .string ⟨#[]⟩, .string ⟨#[]⟩, .string ⟨#[]⟩, .string ⟨#[]⟩] 65))) := Row.new w0 _ _ rfl
  have HBa : Hid (Below w.heap.size w (w0.alloc (.cells #[.string ⟨#[]⟩, .string ⟨#[]⟩, .string ⟨#[]⟩, .string ⟨#[]⟩, .string ⟨#[]⟩, .string ⟨#[]⟩, .string ⟨#[]⟩, .string ⟨#[]⟩, .string ⟨#[]⟩, .string ⟨#[]⟩] 65))) := HB.out.alloc HB.out.size _
  have Ha : Hid (QAt w.heap.size q A c (w0.alloc (.cells #[.string ⟨#[]⟩, .string ⟨#[]⟩, .string ⟨#[]⟩, .string ⟨#[]⟩, .string ⟨#[]⟩, .string ⟨#[]⟩, .string ⟨#[]⟩, .string ⟨#[]⟩, .string ⟨#[]⟩, .string ⟨#[]⟩] 65))) := H.out.old _
  have hlt0 : w.heap.size < w0.heap.size := H.out.lt
  go_upto_region 2 with (first | ((with_reducible refine wpl_put (t := 65) (n := 10) (by kernel_rfl) (cs := ?_) HVa.out rfl ?hx ?hy ?hs ?hz ?_); (case hx => rfl); (case hy => rfl); (case hs => rfl); (case hz => (simp [Value.oneCell']; done)); intro w2 hrw2 hww2))
  have HR2 := Lib.hid hrw2
  have H2 : Hid (QAt w.heap.size q A c w2) := hww2.row Ha.out (by omega)
  have HB2 := Lib.hid (hww2.below HBa.out (by omega))
  have hsz2 : w2.heap.size = w0.heap.size + 1 := by rw [hww2.size]; simp
  clear hrw2 hww2 HVa HBa Ha H HB
  have H3 : Hid (QAt w.heap.size q A c (w2.alloc (.cells #[.string ⟨#[]⟩, .string ⟨#[110, 97, 109, 101, 61]⟩, .string ⟨#[110, 115, 76, 100, 104, 78, 97, 109, 101, 61]⟩, .string ⟨#[110, 115, 73, 112, 61]⟩, .string ⟨#[102, 110, 61]⟩, .string ⟨#[104, 97, 110, 100, 108, 101, 61]⟩] 59))) := H2.out.old _
  have HB3 : Hid (Below w.heap.size w (w2.alloc (.cells #[.string ⟨#[]⟩, .string ⟨#[110, 97, 109, 101, 61]⟩, .string ⟨#[110, 115, 76, 100, 104, 78, 97, 109, 101, 61]⟩, .string ⟨#[110, 115, 73, 112, 61]⟩, .string ⟨#[102, 110, 61]⟩, .string ⟨#[104, 97, 110, 100, 108, 101, 61]⟩] 59))) := HB2.out.alloc HB2.out.size _
  have x1 := (HR2.out.old (.cells #[.string ⟨#[]⟩, .string ⟨#[110, 97, 109, 101, 61]⟩, .string ⟨#[110, 115, 76, 100, 104, 78, 97, 109, 101, 61]⟩, .string ⟨#[110, 115, 73, 112, 61]⟩, .string ⟨#[102, 110, 61]⟩, .string ⟨#[104, 97, 110, 100, 108, 101, 61]⟩] 59)).cell 6 _ rfl
  have HX2 : Hid (Row 59 w2.heap.size #[.string ⟨#[]⟩, .string ⟨#[110, 97, 109, 101, 61]⟩, .string ⟨#[110, 115, 76, 100, 104, 78, 97, 109, 101, 61]⟩, .string ⟨#[110, 115, 73, 112, 61]⟩, .string ⟨#[102, 110, 61]⟩, .string ⟨#[104, 97, 110, 100, 108, 101, 61]⟩] (w2.alloc (.cells #[.string ⟨#[]⟩, .string ⟨#[110, 97, 109, 101, 61]⟩, .string ⟨#[110, 115, 76, 100, 104, 78, 97, 109, 101, 61]⟩, .string ⟨#[110, 115, 73, 112, 61]⟩, .string ⟨#[102, 110, 61]⟩, .string ⟨#[104, 97, 110, 100, 108, 101, 61]⟩] 59))) := Row.new w2 _ _ rfl
  go_upto_region 3 with (fail)
  generalize w2.alloc (.cells #[.string ⟨#[]⟩, .string ⟨#[110, 97, 109, 101, 61]⟩, .string ⟨#[110, 115, 76, 100, 104, 78, 97, 109, 101, 61]⟩, .string ⟨#[110, 115, 73, 112, 61]⟩, .string ⟨#[102, 110, 61]⟩, .string ⟨#[104, 97, 110, 100, 108, 101, 61]⟩] 59) = w3 at *
  clear HX2 HR2 H2 HB2
  have c0 := H3.out.kind
  have c1 := H3.out.by_
  rw [hk] at c0
  clear hk
  go_wp2_with (first | ((with_reducible refine wpl_load_qry H3.out ?hx ?_); (case hx => rfl)))
  refine (Many_any q A c _).mono ?_
  rintro e w4 ⟨rfl, h4⟩
  rw [HM.out]
  have HB4 := Lib.hid (below_then HB3.out HB3.out.size h4.out)
  clear c0 x1 c1
  go_wp2_with fail
  go_ret
  exact ⟨by rfl, HB4⟩

set_option maxHeartbeats 4000000 in
set_option maxRecDepth 100000 in
theorem begin_k71 (q : QV) (A : Option Addr) (c : Nat) (w : World) (hk : q.kind = 7) (hb : q.by_ = 1) :
    Calls Tryz.prog 10 #[.agg (qryA q A c)] w fun e w' => e = .returned (.string ⟨#[100, 111, 109, 97, 105, 110, 115, 63, 110, 97, 109, 101, 61]⟩) ∧ Hid (Below w.heap.size w w') := by
  have H : Hid (QAt w.heap.size q A c (w.alloc (.cells (qryA q A c) 30))) := Row.new w _ _ rfl
  have HB : Hid (Below w.heap.size w (w.alloc (.cells (qryA q A c) 30))) := (Below.refl _ _).alloc (Nat.le_refl _) _
  have HM : Hid (manyQ q.kind = true) := by show _ = _; rw [hk]; rfl
  go_enter Tryz.func10, Tryz.ntmps10
  go_upto_region 1 with (fail)
  generalize w.alloc (.cells (qryA q A c) 30) = w0 at *
  have HVa : Hid (Row 65 w0.heap.size #[.string ⟨#[]⟩, .string ⟨#[]⟩, .string ⟨#[]⟩, .string ⟨#[]⟩, .string ⟨#[]⟩, .string ⟨#[]⟩, .string ⟨#[]⟩, .string ⟨#[]⟩, .string ⟨#[]⟩, .string ⟨#[]⟩] (w0.alloc (.cells #[.string ⟨#[]⟩, .string ⟨#[]⟩, .string ⟨#[]⟩, .string ⟨#[]⟩, .string ⟨#[]⟩, .string ⟨#[]⟩, .string ⟨#[]⟩, .string ⟨#[]⟩, .string ⟨#[]⟩, .string ⟨#[]⟩] 65))) := Row.new w0 _ _ rfl
  have HBa : Hid (Below w.heap.size w (w0.alloc (.cells #[.string ⟨#[]⟩, .string ⟨#[]⟩, .string ⟨#[]⟩, .string ⟨#[]⟩, .string ⟨#[]⟩, .string ⟨#[]⟩, .string ⟨#[]⟩, .string ⟨#[]⟩, .string ⟨#[]⟩, .string ⟨#[]⟩] 65))) := HB.out.alloc HB.out.size _
  have Ha : Hid (QAt w.heap.size q A c (w0.alloc (.cells #[.string ⟨#[]⟩, .string ⟨#[]⟩, .string ⟨#[]⟩, .string ⟨#[]⟩, .string ⟨#[]⟩, .string ⟨#[]⟩, .string ⟨#[]⟩, .string ⟨#[]⟩, .string ⟨#[]⟩, .string ⟨#[]⟩] 65))) := H.out.old _
  have hlt0 : w.heap.size < w0.heap.size := H.out.lt
  go_upto_region 2 with (first | ((with_reducible refine wpl_put (t := 65) (n := 10) (by kernel_rfl) (cs := ?_) HVa.out rfl ?hx ?hy ?hs ?hz ?_); (case hx => rfl); (case hy => rfl); (case hs => rfl); (case hz => (simp [Value.oneCell']; done)); intro w2 hrw2 hww2))
  have HR2 := Lib.hid hrw2
  have H2 : Hid (QAt w.heap.size q A c w2) := hww2.row Ha.out (by omega)
  have HB2 := Lib.hid (hww2.below HBa.out (by omega))
  have hsz2 : w2.heap.size = w0.heap.size + 1 := by rw [hww2.size]; simp
  clear hrw2 hww2 HVa HBa Ha H HB
  have H3 : Hid (QAt w.heap.size q A c (w2.alloc (.cells #[.string ⟨#[]⟩, .string ⟨#[110, 97, 109, 101, 61]⟩, .string ⟨#[110, 115, 76, 100, 104, 78, 97, 109, 101, 61]⟩, .string ⟨#[110, 115, 73, 112, 61]⟩, .string ⟨#[102, 110, 61]⟩, .string ⟨#[104, 97, 110, 100, 108, 101, 61]⟩] 59))) := H2.out.old _
  have HB3 : Hid (Below w.heap.size w (w2.alloc (.cells #[.string ⟨#[]⟩, .string ⟨#[110, 97, 109, 101, 61]⟩, .string ⟨#[110, 115, 76, 100, 104, 78, 97, 109, 101, 61]⟩, .string ⟨#[110, 115, 73, 112, 61]⟩, .string ⟨#[102, 110, 61]⟩, .string ⟨#[104, 97, 110, 100, 108, 101, 61]⟩] 59))) := HB2.out.alloc HB2.out.size _
  have x1 := (HR2.out.old (.cells #[.string ⟨#[]⟩, .string ⟨#[110, 97, 109, 101, 61]⟩, .string ⟨#[110, 115, 76, 100, 104, 78, 97, 109, 101, 61]⟩, .string ⟨#[110, 115, 73, 112, 61]⟩, .string ⟨#[102, 110, 61]⟩, .string ⟨#[104, 97, 110, 100, 108, 101, 61]⟩] 59)).cell 7 _ rfl
  have HX2 : Hid (Row 59 w2.heap.size #[.string ⟨#[]⟩, .string ⟨#[110, 97, 109, 101, 61]⟩, .string ⟨#[110, 115, 76, 100, 104, 78, 97, 109, 101, 61]⟩, .string ⟨#[110, 115, 73, 112, 61]⟩, .string ⟨#[102, 110, 61]⟩, .string ⟨#[104, 97, 110, 100, 108, 101, 61]⟩] (w2.alloc (.cells #[.string ⟨#[]⟩, .string ⟨#[110, 97, 109, 101, 61]⟩, .string ⟨#[110, 115, 76, 100, 104, 78, 97, 109, 101, 61]⟩, .string ⟨#[110, 115, 73, 112, 61]⟩, .string ⟨#[102, 110, 61]⟩, .string ⟨#[104, 97, 110, 100, 108, 101, 61]⟩] 59))) := Row.new w2 _ _ rfl
  go_upto_region 3 with (fail)
  generalize w2.alloc (.cells #[.string ⟨#[]⟩, .string ⟨#[110, 97, 109, 101, 61]⟩, .string ⟨#[110, 115, 76, 100, 104, 78, 97, 109, 101, 61]⟩, .string ⟨#[110, 115, 73, 112, 61]⟩, .string ⟨#[102, 110, 61]⟩, .string ⟨#[104, 97, 110, 100, 108, 101, 61]⟩] 59) = w3 at *
  have x2 := HX2.out.cell 1 _ rfl
  rw [hsz2] at x2
  clear HX2 HR2 H2 HB2
  have c0 := H3.out.kind
  have c1 := H3.out.by_
  rw [hk] at c0
  rw [hb] at c1
  clear hk hb
  go_wp2_with (first | ((with_reducible refine wpl_load_qry H3.out ?hx ?_); (case hx => rfl)))
  refine (Many_any q A c _).mono ?_
  rintro e w4 ⟨rfl, h4⟩
  rw [HM.out]
  have HB4 := Lib.hid (below_then HB3.out HB3.out.size h4.out)
  replace x2 := cell_below h4.out x2
  replace c1 := cell_below h4.out c1
  clear c0 x1
  go_wp2_with fail
  go_ret
  exact ⟨by rfl, HB4⟩

set_option maxHeartbeats 4000000 in
set_option maxRecDepth 100000 in
theorem begin_k72 (q : QV) (A : Option Addr) (c : Nat) (w : World) (hk : q.kind = 7) (hb : q.by_ = 2) :
    Calls Tryz.prog 10 #[.agg (qryA q A c)] w fun e w' => e = .returned (.string ⟨#[100, 111, 109, 97, 105, 110, 115, 63, 110, 115, 76, 100, 104, 78, 97, 109, 101, 61]⟩) ∧ Hid (Below w.heap.size w w') := by
  have H : Hid (QAt w.heap.size q A c (w.alloc (.cells (qryA q A c) 30))) := Row.new w _ _ rfl
  have HB : Hid (Below w.heap.size w (w.alloc (.cells (qryA q A c) 30))) := (Below.refl _ _).alloc (Nat.le_refl _) _
  have HM : Hid (manyQ q.kind = true) := by show _ = _; rw [hk]; rfl
  go_enter Tryz.func10, Tryz.ntmps10
  go_upto_region 1 with (fail)
  generalize w.alloc (.cells (qryA q A c) 30) = w0 at *
  have HVa : Hid (Row 65 w0.heap.size #[.string ⟨#[]⟩, .string ⟨#[]⟩, .string ⟨#[]⟩, .string ⟨#[]⟩, .string ⟨#[]⟩, .string ⟨#[]⟩, .string ⟨#[]⟩, .string ⟨#[]⟩, .string ⟨#[]⟩, .string ⟨#[]⟩] (w0.alloc (.cells #[.string ⟨#[]⟩, .string ⟨#[]⟩, .string ⟨#[]⟩, .string ⟨#[]⟩, .string ⟨#[]⟩, .string ⟨#[]⟩, .string ⟨#[]⟩, .string ⟨#[]⟩, .string ⟨#[]⟩, .string ⟨#[]⟩] 65))) := Row.new w0 _ _ rfl
  have HBa : Hid (Below w.heap.size w (w0.alloc (.cells #[.string ⟨#[]⟩, .string ⟨#[]⟩, .string ⟨#[]⟩, .string ⟨#[]⟩, .string ⟨#[]⟩, .string ⟨#[]⟩, .string ⟨#[]⟩, .string ⟨#[]⟩, .string ⟨#[]⟩, .string ⟨#[]⟩] 65))) := HB.out.alloc HB.out.size _
  have Ha : Hid (QAt w.heap.size q A c (w0.alloc (.cells #[.string ⟨#[]⟩, .string ⟨#[]⟩, .string ⟨#[]⟩, .string ⟨#[]⟩, .string ⟨#[]⟩, .string ⟨#[]⟩, .string ⟨#[]⟩, .string ⟨#[]⟩, .string ⟨#[]⟩, .string ⟨#[]⟩] 65))) := H.out.old _
  have hlt0 : w.heap.size < w0.heap.size := H.out.lt
  go_upto_region 2 with (first | ((with_reducible refine wpl_put (t := 65) (n := 10) (by kernel_rfl) (cs := ?_) HVa.out rfl ?hx ?hy ?hs ?hz ?_); (case hx => rfl); (case hy => rfl); (case hs => rfl); (case hz => (simp [Value.oneCell']; done)); intro w2 hrw2 hww2))
  have HR2 := Lib.hid hrw2
  have H2 : Hid (QAt w.heap.size q A c w2) := hww2.row Ha.out (by omega)
  have HB2 := Lib.hid (hww2.below HBa.out (by omega))
  have hsz2 : w2.heap.size = w0.heap.size + 1 := by rw [hww2.size]; simp
  clear hrw2 hww2 HVa HBa Ha H HB
  have H3 : Hid (QAt w.heap.size q A c (w2.alloc (.cells #[.string ⟨#[]⟩, .string ⟨#[110, 97, 109, 101, 61]⟩, .string ⟨#[110, 115, 76, 100, 104, 78, 97, 109, 101, 61]⟩, .string ⟨#[110, 115, 73, 112, 61]⟩, .string ⟨#[102, 110, 61]⟩, .string ⟨#[104, 97, 110, 100, 108, 101, 61]⟩] 59))) := H2.out.old _
  have HB3 : Hid (Below w.heap.size w (w2.alloc (.cells #[.string ⟨#[]⟩, .string ⟨#[110, 97, 109, 101, 61]⟩, .string ⟨#[110, 115, 76, 100, 104, 78, 97, 109, 101, 61]⟩, .string ⟨#[110, 115, 73, 112, 61]⟩, .string ⟨#[102, 110, 61]⟩, .string ⟨#[104, 97, 110, 100, 108, 101, 61]⟩] 59))) := HB2.out.alloc HB2.out.size _
  have x1 := (HR2.out.old (.cells #[.string ⟨#[]⟩, .string ⟨#[110, 97, 109, 101, 61]⟩, .string ⟨#[110, 115, 76, 100, 104, 78, 97, 109, 101, 61]⟩, .string ⟨#[110, 115, 73, 112, 61]⟩, .string ⟨#[102, 110, 61]⟩, .string ⟨#[104, 97, 110, 100, 108, 101, 61]⟩] 59)).cell 7 _ rfl
  have HX2 : Hid (Row 59 w2.heap.size #[.string ⟨#[]⟩, .string ⟨#[110, 97, 109, 101, 61]⟩, .string ⟨#[110, 115, 76, 100, 104, 78, 97, 109, 101, 61]⟩, .string ⟨#[110, 115, 73, 112, 61]⟩, .string ⟨#[102, 110, 61]⟩, .string ⟨#[104, 97, 110, 100, 108, 101, 61]⟩] (w2.alloc (.cells #[.string ⟨#[]⟩, .string ⟨#[110, 97, 109, 101, 61]⟩, .string ⟨#[110, 115, 76, 100, 104, 78, 97, 109, 101, 61]⟩, .string ⟨#[110, 115, 73, 112, 61]⟩, .string ⟨#[102, 110, 61]⟩, .string ⟨#[104, 97, 110, 100, 108, 101, 61]⟩] 59))) := Row.new w2 _ _ rfl
  go_upto_region 3 with (fail)
  generalize w2.alloc (.cells #[.string ⟨#[]⟩, .string ⟨#[110, 97, 109, 101, 61]⟩, .string ⟨#[110, 115, 76, 100, 104, 78, 97, 109, 101, 61]⟩, .string ⟨#[110, 115, 73, 112, 61]⟩, .string ⟨#[102, 110, 61]⟩, .string ⟨#[104, 97, 110, 100, 108, 101, 61]⟩] 59) = w3 at *
  have x2 := HX2.out.cell 2 _ rfl
  rw [hsz2] at x2
  clear HX2 HR2 H2 HB2
  have c0 := H3.out.kind
  have c1 := H3.out.by_
  rw [hk] at c0
  rw [hb] at c1
  clear hk hb
  go_wp2_with (first | ((with_reducible refine wpl_load_qry H3.out ?hx ?_); (case hx => rfl)))
  refine (Many_any q A c _).mono ?_
  rintro e w4 ⟨rfl, h4⟩
  rw [HM.out]
  have HB4 := Lib.hid (below_then HB3.out HB3.out.size h4.out)
  replace x2 := cell_below h4.out x2
  replace c1 := cell_below h4.out c1
  clear c0 x1
  go_wp2_with fail
  go_ret
  exact ⟨by rfl, HB4⟩

set_option maxHeartbeats 4000000 in
set_option maxRecDepth 100000 in
theorem begin_k73 (q : QV) (A : Option Addr) (c : Nat) (w : World) (hk : q.kind = 7) (hb : q.by_ = 3) :
    Calls Tryz.prog 10 #[.agg (qryA q A c)] w fun e w' => e = .returned (.string ⟨#[100, 111, 109, 97, 105, 110, 115, 63, 110, 115, 73, 112, 61]⟩) ∧ Hid (Below w.heap.size w w') := by
  have H : Hid (QAt w.heap.size q A c (w.alloc (.cells (qryA q A c) 30))) := Row.new w _ _ rfl
  have HB : Hid (Below w.heap.size w (w.alloc (.cells (qryA q A c) 30))) := (Below.refl _ _).alloc (Nat.le_refl _) _
  have HM : Hid (manyQ q.kind = true) := by show _ = _; rw [hk]; rfl
  go_enter Tryz.func10, Tryz.ntmps10
  go_upto_region 1 with (fail)
  generalize w.alloc (.cells (qryA q A c) 30) = w0 at *
  have HVa : Hid (Row 65 w0.heap.size #[.string ⟨#[]⟩, .string ⟨#[]⟩, .string ⟨#[]⟩, .string ⟨#[]⟩, .string ⟨#[]⟩, .string ⟨#[]⟩, .string ⟨#[]⟩, .string ⟨#[]⟩, .string ⟨#[]⟩, .string ⟨#[]⟩] (w0.alloc (.cells #[.string ⟨#[]⟩, .string ⟨#[]⟩, .string ⟨#[]⟩, .string ⟨#[]⟩, .string ⟨#[]⟩, .string ⟨#[]⟩, .string ⟨#[]⟩, .string ⟨#[]⟩, .string ⟨#[]⟩, .string ⟨#[]⟩] 65))) := Row.new w0 _ _ rfl
  have HBa : Hid (Below w.heap.size w (w0.alloc (.cells #[.string ⟨#[]⟩, .string ⟨#[]⟩, .string ⟨#[]⟩, .string ⟨#[]⟩, .string ⟨#[]⟩, .string ⟨#[]⟩, .string ⟨#[]⟩, .string ⟨#[]⟩, .string ⟨#[]⟩, .string ⟨#[]⟩] 65))) := HB.out.alloc HB.out.size _
  have Ha : Hid (QAt w.heap.size q A c (w0.alloc (.cells #[.string ⟨#[]⟩, .string ⟨#[]⟩, .string ⟨#[]⟩, .string ⟨#[]⟩, .string ⟨#[]⟩, .string ⟨#[]⟩, .string ⟨#[]⟩, .string ⟨#[]⟩, .string ⟨#[]⟩, .string ⟨#[]⟩] 65))) := H.out.old _
  have hlt0 : w.heap.size < w0.heap.size := H.out.lt
  go_upto_region 2 with (first | ((with_reducible refine wpl_put (t := 65) (n := 10) (by kernel_rfl) (cs := ?_) HVa.out rfl ?hx ?hy ?hs ?hz ?_); (case hx => rfl); (case hy => rfl); (case hs => rfl); (case hz => (simp [Value.oneCell']; done)); intro w2 hrw2 hww2))
  have HR2 := Lib.hid hrw2
  have H2 : Hid (QAt w.heap.size q A c w2) := hww2.row Ha.out (by omega)
  have HB2 := Lib.hid (hww2.below HBa.out (by omega))
  have hsz2 : w2.heap.size = w0.heap.size + 1 := by rw [hww2.size]; simp
  clear hrw2 hww2 HVa HBa Ha H HB
  have H3 : Hid (QAt w.heap.size q A c (w2.alloc (.cells #[.string ⟨#[]⟩, .string ⟨#[110, 97, 109, 101, 61]⟩, .string ⟨#[110, 115, 76, 100, 104, 78, 97, 109, 101, 61]⟩, .string ⟨#[110, 115, 73, 112, 61]⟩, .string ⟨#[102, 110, 61]⟩, .string ⟨#[104, 97, 110, 100, 108, 101, 61]⟩] 59))) := H2.out.old _
  have HB3 : Hid (Below w.heap.size w (w2.alloc (.cells #[.string ⟨#[]⟩, .string ⟨#[110, 97, 109, 101, 61]⟩, .string ⟨#[110, 115, 76, 100, 104, 78, 97, 109, 101, 61]⟩, .string ⟨#[110, 115, 73, 112, 61]⟩, .string ⟨#[102, 110, 61]⟩, .string ⟨#[104, 97, 110, 100, 108, 101, 61]⟩] 59))) := HB2.out.alloc HB2.out.size _
  have x1 := (HR2.out.old (.cells #[.string ⟨#[]⟩, .string ⟨#[110, 97, 109, 101, 61]⟩, .string ⟨#[110, 115, 76, 100, 104, 78, 97, 109, 101, 61]⟩, .string ⟨#[110, 115, 73, 112, 61]⟩, .string ⟨#[102, 110, 61]⟩, .string ⟨#[104, 97, 110, 100, 108, 101, 61]⟩] 59)).cell 7 _ rfl
  have HX2 : Hid (Row 59 w2.heap.size #[.string ⟨#[]⟩, .string ⟨#[110, 97, 109, 101, 61]⟩, .string ⟨#[110, 115, 76, 100, 104, 78, 97, 109, 101, 61]⟩, .string ⟨#[110, 115, 73, 112, 61]⟩, .string ⟨#[102, 110, 61]⟩, .string ⟨#[104, 97, 110, 100, 108, 101, 61]⟩] (w2.alloc (.cells #[.string ⟨#[]⟩, .string ⟨#[110, 97, 109, 101, 61]⟩, .string ⟨#[110, 115, 76, 100, 104, 78, 97, 109, 101, 61]⟩, .string ⟨#[110, 115, 73, 112, 61]⟩, .string ⟨#[102, 110, 61]⟩, .string ⟨#[104, 97, 110, 100, 108, 101, 61]⟩] 59))) := Row.new w2 _ _ rfl
  go_upto_region 3 with (fail)
  generalize w2.alloc (.cells #[.string ⟨#[]⟩, .string ⟨#[110, 97, 109, 101, 61]⟩, .string ⟨#[110, 115, 76, 100, 104, 78, 97, 109, 101, 61]⟩, .string ⟨#[110, 115, 73, 112, 61]⟩, .string ⟨#[102, 110, 61]⟩, .string ⟨#[104, 97, 110, 100, 108, 101, 61]⟩] 59) = w3 at *
  have x2 := HX2.out.cell 3 _ rfl
  rw [hsz2] at x2
  clear HX2 HR2 H2 HB2
  have c0 := H3.out.kind
  have c1 := H3.out.by_
  rw [hk] at c0
  rw [hb] at c1
  clear hk hb
  go_wp2_with (first | ((with_reducible refine wpl_load_qry H3.out ?hx ?_); (case hx => rfl)))
  refine (Many_any q A c _).mono ?_
  rintro e w4 ⟨rfl, h4⟩
  rw [HM.out]
  have HB4 := Lib.hid (below_then HB3.out HB3.out.size h4.out)
  replace x2 := cell_below h4.out x2
  replace c1 := cell_below h4.out c1
  clear c0 x1
  go_wp2_with fail
  go_ret
  exact ⟨by rfl, HB4⟩

set_option maxHeartbeats 4000000 in
set_option maxRecDepth 100000 in
theorem begin_k81 (q : QV) (A : Option Addr) (c : Nat) (w : World) (hk : q.kind = 8) (hb : q.by_ = 1) :
    Calls Tryz.prog 10 #[.agg (qryA q A c)] w fun e w' => e = .returned (.string ⟨#[110, 97, 109, 101, 115, 101, 114, 118, 101, 114, 115, 63, 110, 97, 109, 101, 61]⟩) ∧ Hid (Below w.heap.size w w') := by
  have H : Hid (QAt w.heap.size q A c (w.alloc (.cells (qryA q A c) 30))) := Row.new w _ _ rfl
  have HB : Hid (Below w.heap.size w (w.alloc (.cells (qryA q A c) 30))) := (Below.refl _ _).alloc (Nat.le_refl _) _
  have HM : Hid (manyQ q.kind = true) := by show _ = _; rw [hk]; rfl
  go_enter Tryz.func10, Tryz.ntmps10
  go_upto_region 1 with (fail)
  generalize w.alloc (.cells (qryA q A c) 30) = w0 at *
  have HVa : Hid (Row 65 w0.heap.size #[.string ⟨#[]⟩, .string ⟨#[]⟩, .string ⟨#[]⟩, .string ⟨#[]⟩, .string ⟨#[]⟩, .string ⟨#[]⟩, .string ⟨#[]⟩, .string ⟨#[]⟩, .string ⟨#[]⟩, .string ⟨#[]⟩] (w0.alloc (.cells #[.string ⟨#[]⟩, .string ⟨#[]⟩, .string ⟨#[]⟩, .string ⟨#[]⟩, .string ⟨#[]⟩, .string ⟨#[]⟩, .string ⟨#[]⟩, .string ⟨#[]⟩, .string ⟨#[]⟩, .string ⟨#[]⟩] 65))) := Row.new w0 _ _ rfl
  have HBa : Hid (Below w.heap.size w (w0.alloc (.cells #[.string ⟨#[]⟩, .string ⟨#[]⟩, .string ⟨#[]⟩, .string ⟨#[]⟩, .string ⟨#[]⟩, .string ⟨#[]⟩, .string ⟨#[]⟩, .string ⟨#[]⟩, .string ⟨#[]⟩, .string ⟨#[]⟩] 65))) := HB.out.alloc HB.out.size _
  have Ha : Hid (QAt w.heap.size q A c (w0.alloc (.cells #[.string ⟨#[]⟩, .string ⟨#[]⟩, .string ⟨#[]⟩, .string ⟨#[]⟩, .string ⟨#[]⟩, .string ⟨#[]⟩, .string ⟨#[]⟩, .string ⟨#[]⟩, .string ⟨#[]⟩, .string ⟨#[]⟩] 65))) := H.out.old _
  have hlt0 : w.heap.size < w0.heap.size := H.out.lt
  go_upto_region 2 with (first | ((with_reducible refine wpl_put (t := 65) (n := 10) (by kernel_rfl) (cs := ?_) HVa.out rfl ?hx ?hy ?hs ?hz ?_); (case hx => rfl); (case hy => rfl); (case hs => rfl); (case hz => (simp [Value.oneCell']; done)); intro w2 hrw2 hww2))
  have HR2 := Lib.hid hrw2
  have H2 : Hid (QAt w.heap.size q A c w2) := hww2.row Ha.out (by omega)
  have HB2 := Lib.hid (hww2.below HBa.out (by omega))
  have hsz2 : w2.heap.size = w0.heap.size + 1 := by rw [hww2.size]; simp
  clear hrw2 hww2 HVa HBa Ha H HB
  have H3 : Hid (QAt w.heap.size q A c (w2.alloc (.cells #[.string ⟨#[]⟩, .string ⟨#[110, 97, 109, 101, 61]⟩, .string ⟨#[110, 115, 76, 100, 104, 78, 97, 109, 101, 61]⟩, .string ⟨#[110, 115, 73, 112, 61]⟩, .string ⟨#[102, 110, 61]⟩, .string ⟨#[104, 97, 110, 100, 108, 101, 61]⟩] 59))) := H2.out.old _
  have HB3 : Hid (Below w.heap.size w (w2.alloc (.cells #[.string ⟨#[]⟩, .string ⟨#[110, 97, 109, 101, 61]⟩, .string ⟨#[110, 115, 76, 100, 104, 78, 97, 109, 101, 61]⟩, .string ⟨#[110, 115, 73, 112, 61]⟩, .string ⟨#[102, 110, 61]⟩, .string ⟨#[104, 97, 110, 100, 108, 101, 61]⟩] 59))) := HB2.out.alloc HB2.out.size _
  have x1 := (HR2.out.old (.cells #[.string ⟨#[]⟩, .string ⟨#[110, 97, 109, 101, 61]⟩, .string ⟨#[110, 115, 76, 100, 104, 78, 97, 109, 101, 61]⟩, .string ⟨#[110, 115, 73, 112, 61]⟩, .string ⟨#[102, 110, 61]⟩, .string ⟨#[104, 97, 110, 100, 108, 101, 61]⟩] 59)).cell 8 _ rfl
  have HX2 : Hid (Row 59 w2.heap.size #[.string ⟨#[]⟩, .string ⟨#[110, 97, 109, 101, 61]⟩, .string ⟨#[110, 115, 76, 100, 104, 78, 97, 109, 101, 61]⟩, .string ⟨#[110, 115, 73, 112, 61]⟩, .string ⟨#[102, 110, 61]⟩, .string ⟨#[104, 97, 110, 100, 108, 101, 61]⟩] (w2.alloc (.cells #[.string ⟨#[]⟩, .string ⟨#[110, 97, 109, 101, 61]⟩, .string ⟨#[110, 115, 76, 100, 104, 78, 97, 109, 101, 61]⟩, .string ⟨#[110, 115, 73, 112, 61]⟩, .string ⟨#[102, 110, 61]⟩, .string ⟨#[104, 97, 110, 100, 108, 101, 61]⟩] 59))) := Row.new w2 _ _ rfl
  go_upto_region 3 with (fail)
  generalize w2.alloc (.cells #[.string ⟨#[]⟩, .string ⟨#[110, 97, 109, 101, 61]⟩, .string ⟨#[110, 115, 76, 100, 104, 78, 97, 109, 101, 61]⟩, .string ⟨#[110, 115, 73, 112, 61]⟩, .string ⟨#[102, 110, 61]⟩, .string ⟨#[104, 97, 110, 100, 108, 101, 61]⟩] 59) = w3 at *
  have x2 := HX2.out.cell 1 _ rfl
  rw [hsz2] at x2
  clear HX2 HR2 H2 HB2
  have c0 := H3.out.kind
  have c1 := H3.out.by_
  rw [hk] at c0
  rw [hb] at c1
  clear hk hb
  go_wp2_with (first | ((with_reducible refine wpl_load_qry H3.out ?hx ?_); (case hx => rfl)))
  refine (Many_any q A c _).mono ?_
  rintro e w4 ⟨rfl, h4⟩
  rw [HM.out]
  have HB4 := Lib.hid (below_then HB3.out HB3.out.size h4.out)
  replace x2 := cell_below h4.out x2
  replace c1 := cell_below h4.out c1
  clear c0 x1
  go_wp2_with fail
  go_ret
  exact ⟨by rfl, HB4⟩

set_option maxHeartbeats 4000000 in
set_option maxRecDepth 100000 in
theorem begin_k83 (q : QV) (A : Option Addr) (c : Nat) (w : World) (hk : q.kind = 8) (hb : q.by_ = 3) :
    Calls Tryz.prog 10 #[.agg (qryA q A c)] w fun e w' => e = .returned (.string ⟨#[110, 97, 109, 101, 115, 101, 114, 118, 101, 114, 115, 63, 105, 112, 61]⟩) ∧ Hid (Below w.heap.size w w') := by
  have H : Hid (QAt w.heap.size q A c (w.alloc (.cells (qryA q A c) 30))) := Row.new w _ _ rfl
  have HB : Hid (Below w.heap.size w (w.alloc (.cells (qryA q A c) 30))) := (Below.refl _ _).alloc (Nat.le_refl _) _
  have HM : Hid (manyQ q.kind = true) := by show _ = _; rw [hk]; rfl
  go_enter Tryz.func10, Tryz.ntmps10
  go_upto_region 1 with (fail)
  generalize w.alloc (.cells (qryA q A c) 30) = w0 at *
  have HVa : Hid (Row 65 w0.heap.size #[.string ⟨#[]⟩, .string ⟨#[]⟩, .string ⟨#[]⟩, .string ⟨#[]⟩, .string ⟨#[]⟩, .string ⟨#[]⟩, .string ⟨#[]⟩, .string ⟨#[]⟩, .string ⟨#[]⟩, .string ⟨#[]⟩] (w0.alloc (.cells #[.string ⟨#[]⟩, .string ⟨#[]⟩, .string ⟨#[]⟩, .string ⟨#[]⟩, .string ⟨#[]⟩, .string ⟨#[]⟩, .string ⟨#[]⟩, .string ⟨#[]⟩, .string ⟨#[]⟩, .string ⟨#[]⟩] 65))) := Row.new w0 _ _ rfl
  have HBa : Hid (Below w.heap.size w (w0.alloc (.cells #[.string ⟨#[]⟩, .string ⟨#[]⟩, .string ⟨#[]⟩, .string ⟨#[]⟩, .string ⟨#[]⟩, .string ⟨#[]⟩, .string ⟨#[]⟩, .string ⟨#[]⟩, .string ⟨#[]⟩, .string ⟨#[]⟩] 65))) := HB.out.alloc HB.out.size _
  have Ha : Hid (QAt w.heap.size q A c (w0.alloc (.cells #[.string ⟨#[]⟩, .string ⟨#[]⟩, .string ⟨#[]⟩, .string ⟨#[]⟩, .string ⟨#[]⟩, .string ⟨#[]⟩, .string ⟨#[]⟩, .string ⟨#[]⟩, .string ⟨#[]⟩, .string ⟨#[]⟩] 65))) := H.out.old _
  have hlt0 : w.heap.size < w0.heap.size := H.out.lt
  go_upto_region 2 with (first | ((with_reducible refine wpl_put (t := 65) (n := 10) (by kernel_rfl) (cs := ?_) HVa.out rfl ?hx ?hy ?hs ?hz ?_); (case hx => rfl); (case hy => rfl); (case hs => rfl); (case hz => (simp [Value.oneCell']; done)); intro w2 hrw2 hww2))
  have HR2 := Lib.hid hrw2
  have H2 : Hid (QAt w.heap.size q A c w2) := hww2.row Ha.out (by omega)
  have HB2 := Lib.hid (hww2.below HBa.out (by omega))
  have hsz2 : w2.heap.size = w0.heap.size + 1 := by rw [hww2.size]; simp
  clear hrw2 hww2 HVa HBa Ha H HB
  have H3 : Hid (QAt w.heap.size q A c (w2.alloc (.cells #[.string ⟨#[]⟩, .string ⟨#[110, 97, 109, 101, 61]⟩, .string ⟨#[110, 115, 76, 100, 104, 78, 97, 109, 101, 61]⟩, .string ⟨#[110, 115, 73, 112, 61]⟩, .string ⟨#[102, 110, 61]⟩, .string ⟨#[104, 97, 110, 100, 108, 101, 61]⟩] 59))) := H2.out.old _
  have HB3 : Hid (Below w.heap.size w (w2.alloc (.cells #[.string ⟨#[]⟩, .string ⟨#[110, 97, 109, 101, 61]⟩, .string ⟨#[110, 115, 76, 100, 104, 78, 97, 109, 101, 61]⟩, .string ⟨#[110, 115, 73, 112, 61]⟩, .string ⟨#[102, 110, 61]⟩, .string ⟨#[104, 97, 110, 100, 108, 101, 61]⟩] 59))) := HB2.out.alloc HB2.out.size _
  have x1 := (HR2.out.old (.cells #[.string ⟨#[]⟩, .string ⟨#[110, 97, 109, 101, 61]⟩, .string ⟨#[110, 115, 76, 100, 104, 78, 97, 109, 101, 61]⟩, .string ⟨#[110, 115, 73, 112, 61]⟩, .string ⟨#[102, 110, 61]⟩, .string ⟨#[104, 97, 110, 100, 108, 101, 61]⟩] 59)).cell 8 _ rfl
  have HX2 : Hid (Row 59 w2.heap.size #[.string ⟨#[]⟩, .string ⟨#[110, 97, 109, 101, 61]⟩, .string ⟨#[110, 115, 76, 100, 104, 78, 97, 109, 101, 61]⟩, .string ⟨#[110, 115, 73, 112, 61]⟩, .string ⟨#[102, 110, 61]⟩, .string ⟨#[104, 97, 110, 100, 108, 101, 61]⟩] (w2.alloc (.cells #[.string ⟨#[]⟩, .string ⟨#[110, 97, 109, 101, 61]⟩, .string ⟨#[110, 115, 76, 100, 104, 78, 97, 109, 101, 61]⟩, .string ⟨#[110, 115, 73, 112, 61]⟩, .string ⟨#[102, 110, 61]⟩, .string ⟨#[104, 97, 110, 100, 108, 101, 61]⟩] 59))) := Row.new w2 _ _ rfl
  go_upto_region 3 with (fail)
  generalize w2.alloc (.cells #[.string ⟨#[]⟩, .string ⟨#[110, 97, 109, 101, 61]⟩, .string ⟨#[110, 115, 76, 100, 104, 78, 97, 109, 101, 61]⟩, .string ⟨#[110, 115, 73, 112, 61]⟩, .string ⟨#[102, 110, 61]⟩, .string ⟨#[104, 97, 110, 100, 108, 101, 61]⟩] 59) = w3 at *
  have x2 := HX2.out.cell 3 _ rfl
  rw [hsz2] at x2
  clear HX2 HR2 H2 HB2
  have c0 := H3.out.kind
  have c1 := H3.out.by_
  rw [hk] at c0
  rw [hb] at c1
  clear hk hb
  go_wp2_with fail
  go_ret
  exact ⟨by rfl, HB3⟩

set_option maxHeartbeats 4000000 in
set_option maxRecDepth 100000 in
theorem begin_k94 (q : QV) (A : Option Addr) (c : Nat) (w : World) (hk : q.kind = 9) (hb : q.by_ = 4) :
    Calls Tryz.prog 10 #[.agg (qryA q A c)] w fun e w' => e = .returned (.string ⟨#[101, 110, 116, 105, 116, 105, 101, 115, 63, 102, 110, 61]⟩) ∧ Hid (Below w.heap.size w w') := by
  have H : Hid (QAt w.heap.size q A c (w.alloc (.cells (qryA q A c) 30))) := Row.new w _ _ rfl
  have HB : Hid (Below w.heap.size w (w.alloc (.cells (qryA q A c) 30))) := (Below.refl _ _).alloc (Nat.le_refl _) _
  have HM : Hid (manyQ q.kind = true) := by show _ = _; rw [hk]; rfl
  go_enter Tryz.func10, Tryz.ntmps10
  go_upto_region 1 with (fail)
  generalize w.alloc (.cells (qryA q A c) 30) = w0 at *
  have HVa : Hid (Row 65 w0.heap.size #[.string ⟨#[]⟩, .string ⟨#[]⟩, .string ⟨#[]⟩, .string ⟨#[]⟩, .string ⟨#[]⟩, .string ⟨#[]⟩, .string ⟨#[]⟩, .string ⟨#[]⟩, .string ⟨#[]⟩, .string ⟨#[]⟩] (w0.alloc (.cells #[.string ⟨#[]⟩, .string ⟨#[]⟩, .string ⟨#[]⟩, .string ⟨#[]⟩, .string ⟨#[]⟩, .string ⟨#[]⟩, .string ⟨#[]⟩, .string ⟨#[]⟩, .string ⟨#[]⟩, .string ⟨#[]⟩] 65))) := Row.new w0 _ _ rfl
  have HBa : Hid (Below w.heap.size w (w0.alloc (.cells #[.string ⟨#[]⟩, .string ⟨#[]⟩, .string ⟨#[]⟩, .string ⟨#[]⟩, .string ⟨#[]⟩, .string ⟨#[]⟩, .string ⟨#[]⟩, .string ⟨#[]⟩, .string ⟨#[]⟩, .string ⟨#[]⟩] 65))) := HB.out.alloc HB.out.size _
  have Ha : Hid (QAt w.heap.size q A c (w0.alloc (.cells #[.string ⟨#[]⟩, .string ⟨#[]⟩, .string ⟨#[]⟩, .string ⟨#[]⟩, .string ⟨#[]⟩, .string ⟨#[]⟩, .string ⟨#[]⟩, .string ⟨#[]⟩, .string ⟨#[]⟩, .string ⟨#[]⟩] 65))) := H.out.old _
  have hlt0 : w.heap.size < w0.heap.size := H.out.lt
  go_upto_region 2 with (first | ((with_reducible refine wpl_put (t := 65) (n := 10) (by kernel_rfl) (cs := ?_) HVa.out rfl ?hx ?hy ?hs ?hz ?_); (case hx => rfl); (case hy => rfl); (case hs => rfl); (case hz => (simp [Value.oneCell']; done)); intro w2 hrw2 hww2))
  have HR2 := Lib.hid hrw2
  have H2 : Hid (QAt w.heap.size q A c w2) := hww2.row Ha.out (by omega)
  have HB2 := Lib.hid (hww2.below HBa.out (by omega))
  have hsz2 : w2.heap.size = w0.heap.size + 1 := by rw [hww2.size]; simp
  clear hrw2 hww2 HVa HBa Ha H HB
  have H3 : Hid (QAt w.heap.size q A c (w2.alloc (.cells #[.string ⟨#[]⟩, .string ⟨#[110, 97, 109, 101, 61]⟩, .string ⟨#[110, 115, 76, 100, 104, 78, 97, 109, 101, 61]⟩, .string ⟨#[110, 115, 73, 112, 61]⟩, .string ⟨#[102, 110, 61]⟩, .string ⟨#[104, 97, 110, 100, 108, 101, 61]⟩] 59))) := H2.out.old _
  have HB3 : Hid (Below w.heap.size w (w2.alloc (.cells #[.string ⟨#[]⟩, .string ⟨#[110, 97, 109, 101, 61]⟩, .string ⟨#[110, 115, 76, 100, 104, 78, 97, 109, 101, 61]⟩, .string ⟨#[110, 115, 73, 112, 61]⟩, .string ⟨#[102, 110, 61]⟩, .string ⟨#[104, 97, 110, 100, 108, 101, 61]⟩] 59))) := HB2.out.alloc HB2.out.size _
  have x1 := (HR2.out.old (.cells #[.string ⟨#[]⟩, .string ⟨#[110, 97, 109, 101, 61]⟩, .string ⟨#[110, 115, 76, 100, 104, 78, 97, 109, 101, 61]⟩, .string ⟨#[110, 115, 73, 112, 61]⟩, .string ⟨#[102, 110, 61]⟩, .string ⟨#[104, 97, 110, 100, 108, 101, 61]⟩] 59)).cell 9 _ rfl
  have HX2 : Hid (Row 59 w2.heap.size #[.string ⟨#[]⟩, .string ⟨#[110, 97, 109, 101, 61]⟩, .string ⟨#[110, 115, 76, 100, 104, 78, 97, 109, 101, 61]⟩, .string ⟨#[110, 115, 73, 112, 61]⟩, .string ⟨#[102, 110, 61]⟩, .string ⟨#[104, 97, 110, 100, 108, 101, 61]⟩] (w2.alloc (.cells #[.string ⟨#[]⟩, .string ⟨#[110, 97, 109, 101, 61]⟩, .string ⟨#[110, 115, 76, 100, 104, 78, 97, 109, 101, 61]⟩, .string ⟨#[110, 115, 73, 112, 61]⟩, .string ⟨#[102, 110, 61]⟩, .string ⟨#[104, 97, 110, 100, 108, 101, 61]⟩] 59))) := Row.new w2 _ _ rfl
  go_upto_region 3 with (fail)
  generalize w2.alloc (.cells #[.string ⟨#[]⟩, .string ⟨#[110, 97, 109, 101, 61]⟩, .string ⟨#[110, 115, 76, 100, 104, 78, 97, 109, 101, 61]⟩, .string ⟨#[110, 115, 73, 112, 61]⟩, .string ⟨#[102, 110, 61]⟩, .string ⟨#[104, 97, 110, 100, 108, 101, 61]⟩] 59) = w3 at *
  have x2 := HX2.out.cell 4 _ rfl
  rw [hsz2] at x2
  clear HX2 HR2 H2 HB2
  have c0 := H3.out.kind
  have c1 := H3.out.by_
  rw [hk] at c0
  rw [hb] at c1
  clear hk hb
  go_wp2_with (first | ((with_reducible refine wpl_load_qry H3.out ?hx ?_); (case hx => rfl)))
  refine (Many_any q A c _).mono ?_
  rintro e w4 ⟨rfl, h4⟩
  rw [HM.out]
  have HB4 := Lib.hid (below_then HB3.out HB3.out.size h4.out)
  replace x2 := cell_below h4.out x2
  replace c1 := cell_below h4.out c1
  clear c0 x1
  go_wp2_with fail
  go_ret
  exact ⟨by rfl, HB4⟩

set_option maxHeartbeats 4000000 in
set_option maxRecDepth 100000 in
theorem begin_k95 (q : QV) (A : Option Addr) (c : Nat) (w : World) (hk : q.kind = 9) (hb : q.by_ = 5) :
    Calls Tryz.prog 10 #[.agg (qryA q A c)] w fun e w' => e = .returned (.string ⟨#[101, 110, 116, 105, 116, 105, 101, 115, 63, 104, 97, 110, 100, 108, 101, 61]⟩) ∧ Hid (Below w.heap.size w w') := by
  have H : Hid (QAt w.heap.size q A c (w.alloc (.cells (qryA q A c) 30))) := Row.new w _ _ rfl
  have HB : Hid (Below w.heap.size w (w.alloc (.cells (qryA q A c) 30))) := (Below.refl _ _).alloc (Nat.le_refl _) _
  have HM : Hid (manyQ q.kind = true) := by show _ = _; rw [hk]; rfl
  go_enter Tryz.func10, Tryz.ntmps10
  go_upto_region 1 with (fail)
  generalize w.alloc (.cells (qryA q A c) 30) = w0 at *
  have HVa : Hid (Row 65 w0.heap.size #[.string ⟨#[]⟩, .string ⟨#[]⟩, .string ⟨#[]⟩, .string ⟨#[]⟩, .string ⟨#[]⟩, .string ⟨#[]⟩, .string ⟨#[]⟩, .string ⟨#[]⟩, .string ⟨#[]⟩, .string ⟨#[]⟩] (w0.alloc (.cells #[.string ⟨#[]⟩, .string ⟨#[]⟩, .string ⟨#[]⟩, .string ⟨#[]⟩, .string ⟨#[]⟩, .string ⟨#[]⟩, .string ⟨#[]⟩, .string ⟨#[]⟩, .string ⟨#[]⟩, .string ⟨#[]⟩] 65))) := Row.new w0 _ _ rfl
  have HBa : Hid (Below w.heap.size w (w0.alloc (.cells #[.string ⟨#[]⟩, .string ⟨#[]⟩, .string ⟨#[]⟩, .string ⟨#[]⟩, .string ⟨#[]⟩, .string ⟨#[]⟩, .string ⟨#[]⟩, .string ⟨#[]⟩, .string ⟨#[]⟩, .string ⟨#[]⟩] 65))) := HB.out.alloc HB.out.size _
  have Ha : Hid (QAt w.heap.size q A c (w0.alloc (.cells #[.string ⟨#[]⟩, .string ⟨#[]⟩, .string ⟨#[]⟩, .string ⟨#[]⟩, .string ⟨#[]⟩, .string ⟨#[]⟩, .string ⟨#[]⟩, .string ⟨#[]⟩, .string ⟨#[]⟩, .string ⟨#[]⟩] 65))) := H.out.old _
  have hlt0 : w.heap.size < w0.heap.size := H.out.lt
  go_upto_region 2 with (first | ((with_reducible refine wpl_put (t := 65) (n := 10) (by kernel_rfl) (cs := ?_) HVa.out rfl ?hx ?hy ?hs ?hz ?_); (case hx => rfl); (case hy => rfl); (case hs => rfl); (case hz => (simp [Value.oneCell']; done)); intro w2 hrw2 hww2))
  have HR2 := Lib.hid hrw2
  have H2 : Hid (QAt w.heap.size q A c w2) := hww2.row Ha.out (by omega)
  have HB2 := Lib.hid (hww2.below HBa.out (by omega))
  have hsz2 : w2.heap.size = w0.heap.size + 1 := by rw [hww2.size]; simp
  clear hrw2 hww2 HVa HBa Ha H HB
  have H3 : Hid (QAt w.heap.size q A c (w2.alloc (.cells #[.string ⟨#[]⟩, .string ⟨#[110, 97, 109, 101, 61]⟩, .string ⟨#[110, 115, 76, 100, 104, 78, 97, 109, 101, 61]⟩, .string ⟨#[110, 115, 73, 112, 61]⟩, .string ⟨#[102, 110, 61]⟩, .string ⟨#[104, 97, 110, 100, 108, 101, 61]⟩] 59))) := H2.out.old _
  have HB3 : Hid (Below w.heap.size w (w2.alloc (.cells #[.string ⟨#[]⟩, .string ⟨#[110, 97, 109, 101, 61]⟩, .string ⟨#[110, 115, 76, 100, 104, 78, 97, 109, 101, 61]⟩, .string ⟨#[110, 115, 73, 112, 61]⟩, .string ⟨#[102, 110, 61]⟩, .string ⟨#[104, 97, 110, 100, 108, 101, 61]⟩] 59))) := HB2.out.alloc HB2.out.size _
  have x1 := (HR2.out.old (.cells #[.string ⟨#[]⟩, .string ⟨#[110, 97, 109, 101, 61]⟩, .string ⟨#[110, 115, 76, 100, 104, 78, 97, 109, 101, 61]⟩, .string ⟨#[110, 115, 73, 112, 61]⟩, .string ⟨#[102, 110, 61]⟩, .string ⟨#[104, 97, 110, 100, 108, 101, 61]⟩] 59)).cell 9 _ rfl
  have HX2 : Hid (Row 59 w2.heap.size #[.string ⟨#[]⟩, .string ⟨#[110, 97, 109, 101, 61]⟩, .string ⟨#[110, 115, 76, 100, 104, 78, 97, 109, 101, 61]⟩, .string ⟨#[110, 115, 73, 112, 61]⟩, .string ⟨#[102, 110, 61]⟩, .string ⟨#[104, 97, 110, 100, 108, 101, 61]⟩] (w2.alloc (.cells #[.string ⟨#[]⟩, .string ⟨#[110, 97, 109, 101, 61]⟩, .string ⟨#[110, 115, 76, 100, 104, 78, 97, 109, 101, 61]⟩, .string ⟨#[110, 115, 73, 112, 61]⟩, .string ⟨#[102, 110, 61]⟩, .string ⟨#[104, 97, 110, 100, 108, 101, 61]⟩] 59))) := Row.new w2 _ _ rfl
  go_upto_region 3 with (fail)
  generalize w2.alloc (.cells #[.string ⟨#[]⟩, .string ⟨#[110, 97, 109, 101, 61]⟩, .string ⟨#[110, 115, 76, 100, 104, 78, 97, 109, 101, 61]⟩, .string ⟨#[110, 115, 73, 112, 61]⟩, .string ⟨#[102, 110, 61]⟩, .string ⟨#[104, 97, 110, 100, 108, 101, 61]⟩] 59) = w3 at *
  have x2 := HX2.out.cell 5 _ rfl
  rw [hsz2] at x2
  clear HX2 HR2 H2 HB2
  have c0 := H3.out.kind
  have c1 := H3.out.by_
  rw [hk] at c0
  rw [hb] at c1
  clear hk hb
  go_wp2_with (first | ((with_reducible refine wpl_load_qry H3.out ?hx ?_); (case hx => rfl)))
  refine (Many_any q A c _).mono ?_
  rintro e w4 ⟨rfl, h4⟩
  rw [HM.out]
  have HB4 := Lib.hid (below_then HB3.out HB3.out.size h4.out)
  replace x2 := cell_below h4.out x2
  replace c1 := cell_below h4.out c1
  clear c0 x1
  go_wp2_with fail
  go_ret
  exact ⟨by rfl, HB4⟩
end Go.Proofs.YtngokkebjadoiaaGreatDoor

