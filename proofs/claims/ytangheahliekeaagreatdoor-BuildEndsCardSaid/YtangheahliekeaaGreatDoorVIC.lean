/- What the claim uses of the text IC. -/
import Derived.Test.YtangheahliekeaaGreatDoorVG7
import Derived.Test.YtangheahliekeaaGreatDoorVG9
set_option linter.unusedVariables false
set_option linter.unusedSimpArgs false
namespace Go.Proofs.YtangheahliekeaaGreatDoor
open Go.RowKit Go.PlainAid
open Go.Proofs.YtangheahliekeaaGreatDoorW.PrintWords hiding bt
open Go.Proofs.YtangheahliekeaaGreatDoorW.PrintMore

set_option maxHeartbeats 4000000 in
set_option maxRecDepth 100000 in
theorem begin_k6 (q : QV) (A : Option Addr) (c : Nat) (w : World) (hk : q.kind = 6) :
    Calls Tryz.prog 60 #[.agg (qryA q A c)] w fun e w' => e = .returned (.string ⟨#[97, 117, 116, 110, 117, 109, 47]⟩) ∧ Hid (Below w.heap.size w w') := by
  have H : Hid (QAt w.heap.size q A c (w.alloc (.cells (qryA q A c) 100))) := Row.new w _ _ rfl
  have HB : Hid (Below w.heap.size w (w.alloc (.cells (qryA q A c) 100))) := (Below.refl _ _).alloc (Nat.le_refl _) _
  have HM : Hid (manyQ q.kind = false) := by show _ = _; rw [hk]; rfl
  go_enter Tryz.func60, Tryz.ntmps60
  go_upto_region 1 with (fail)
  generalize w.alloc (.cells (qryA q A c) 100) = w0 at *
  have HVa : Hid (Row 163 w0.heap.size #[.string ⟨#[]⟩, .string ⟨#[]⟩, .string ⟨#[]⟩, .string ⟨#[]⟩, .string ⟨#[]⟩, .string ⟨#[]⟩, .string ⟨#[]⟩, .string ⟨#[]⟩, .string ⟨#[]⟩, .string ⟨#[]⟩] (w0.alloc (.cells #[.string ⟨#[]⟩, .string ⟨#[]⟩, .string ⟨#[]⟩, .string ⟨#[]⟩, .string ⟨#[]⟩, .string ⟨#[]⟩, .string ⟨#[]⟩, .string ⟨#[]⟩, .string ⟨#[]⟩, .string ⟨#[]⟩] 163))) := Row.new w0 _ _ rfl
  have HBa : Hid (Below w.heap.size w (w0.alloc (.cells #[.string ⟨#[]⟩, .string ⟨#[]⟩, .string ⟨#[]⟩, .string ⟨#[]⟩, .string ⟨#[]⟩, .string ⟨#[]⟩, .string ⟨#[]⟩, .string ⟨#[]⟩, .string ⟨#[]⟩, .string ⟨#[]⟩] 163))) := HB.out.alloc HB.out.size _
  have Ha : Hid (QAt w.heap.size q A c (w0.alloc (.cells #[.string ⟨#[]⟩, .string ⟨#[]⟩, .string ⟨#[]⟩, .string ⟨#[]⟩, .string ⟨#[]⟩, .string ⟨#[]⟩, .string ⟨#[]⟩, .string ⟨#[]⟩, .string ⟨#[]⟩, .string ⟨#[]⟩] 163))) := H.out.old _
  have hlt0 : w.heap.size < w0.heap.size := H.out.lt
  go_upto_region 2 with (first | ((with_reducible refine wpl_put (t := 163) (n := 10) (by kernel_rfl) (cs := ?_) HVa.out rfl ?hx ?hy ?hs ?hz ?_); (case hx => rfl); (case hy => rfl); (case hs => rfl); (case hz => (simp [Value.oneCell']; done)); intro w2 hrw2 hww2))
  have HR2 := Lib.hid hrw2
  have H2 : Hid (QAt w.heap.size q A c w2) := hww2.row Ha.out (by omega)
  have HB2 := Lib.hid (hww2.below HBa.out (by omega))
  have hsz2 : w2.heap.size = w0.heap.size + 1 := by rw [hww2.size]; simp
  clear hrw2 hww2 HVa HBa Ha H HB
  have H3 : Hid (QAt w.heap.size q A c (w2.alloc (.cells #[.string ⟨#[]⟩, .string ⟨#[110, 97, 109, 101, 61]⟩, .string ⟨#[110, 115, 76, 100, 104, 78, 97, 109, 101, 61]⟩, .string ⟨#[110, 115, 73, 112, 61]⟩, .string ⟨#[102, 110, 61]⟩, .string ⟨#[104, 97, 110, 100, 108, 101, 61]⟩] 164))) := H2.out.old _
  have HB3 : Hid (Below w.heap.size w (w2.alloc (.cells #[.string ⟨#[]⟩, .string ⟨#[110, 97, 109, 101, 61]⟩, .string ⟨#[110, 115, 76, 100, 104, 78, 97, 109, 101, 61]⟩, .string ⟨#[110, 115, 73, 112, 61]⟩, .string ⟨#[102, 110, 61]⟩, .string ⟨#[104, 97, 110, 100, 108, 101, 61]⟩] 164))) := HB2.out.alloc HB2.out.size _
  have x1 := (HR2.out.old (.cells #[.string ⟨#[]⟩, .string ⟨#[110, 97, 109, 101, 61]⟩, .string ⟨#[110, 115, 76, 100, 104, 78, 97, 109, 101, 61]⟩, .string ⟨#[110, 115, 73, 112, 61]⟩, .string ⟨#[102, 110, 61]⟩, .string ⟨#[104, 97, 110, 100, 108, 101, 61]⟩] 164)).cell 6 _ rfl
  have HX2 : Hid (Row 164 w2.heap.size #[.string ⟨#[]⟩, .string ⟨#[110, 97, 109, 101, 61]⟩, .string ⟨#[110, 115, 76, 100, 104, 78, 97, 109, 101, 61]⟩, .string ⟨#[110, 115, 73, 112, 61]⟩, .string ⟨#[102, 110, 61]⟩, .string ⟨#[104, 97, 110, 100, 108, 101, 61]⟩] (w2.alloc (.cells #[.string ⟨#[]⟩, .string ⟨#[110, 97, 109, 101, 61]⟩, .string ⟨#[110, 115, 76, 100, 104, 78, 97, 109, 101, 61]⟩, .string ⟨#[110, 115, 73, 112, 61]⟩, .string ⟨#[102, 110, 61]⟩, .string ⟨#[104, 97, 110, 100, 108, 101, 61]⟩] 164))) := Row.new w2 _ _ rfl
  go_upto_region 3 with (fail)
  generalize w2.alloc (.cells #[.string ⟨#[]⟩, .string ⟨#[110, 97, 109, 101, 61]⟩, .string ⟨#[110, 115, 76, 100, 104, 78, 97, 109, 101, 61]⟩, .string ⟨#[110, 115, 73, 112, 61]⟩, .string ⟨#[102, 110, 61]⟩, .string ⟨#[104, 97, 110, 100, 108, 101, 61]⟩] 164) = w3 at *
  clear HX2 HR2 H2 HB2
  have c0 := H3.out.kind
  have c1 := H3.out.by_
  rw [hk] at c0
  clear hk
  go_wp2_with (first | ((with_reducible refine wpl_load_qry H3.out ?hx ?_); (case hx => rfl)))
  refine (Many_any q A c _).mono ?_
  rintro e w4 ⟨rfl, h4⟩
  rw [HM.out]
  have HB4 := Lib.hid (below_then HB3.out HB3.out.size h4.out)
  clear c0 x1 c1
  go_wp2_with fail
  go_ret
  exact ⟨by rfl, HB4⟩

end Go.Proofs.YtangheahliekeaaGreatDoor

