/- What the claim uses of the text H1. -/
import Derived.Test.YtngokkebjadoiaaGreatDoorVG7
import Derived.Test.YtngokkebjadoiaaGreatDoorVG9
set_option linter.unusedVariables false
set_option linter.unusedSimpArgs false
namespace Go.Proofs.YtngokkebjadoiaaGreatDoor
open Go.RowKit Go.PlainAid
open Go.Proofs.YtngokkebjadoiaaGreatDoorW.PrintWords hiding bt
open Go.Proofs.YtngokkebjadoiaaGreatDoorW.PrintMore

def refQ (q : QV) (w : World) : Ending → World → Prop := fun e w' => ∃ c : Int, e = .returned (.int .i64 c) ∧ Hid (c = 0 ↔ qOk q = true) ∧ Hid (Below w.heap.size w w')

set_option maxHeartbeats 4000000 in
set_option maxRecDepth 100000 in
theorem refQ_k1 (q : QV) (hp : ∀ i, i < 16 → q.net.addr i < 256) (A : Option Addr) (c : Nat) (w : World) (hk : q.kind = 1) :
    Calls Tryz.prog 16 #[.agg (qryA q A c)] w (refQ q w) := by
  have H : Hid (QAt w.heap.size q A c (w.alloc (.cells (qryA q A c) 30))) := Row.new w _ _ rfl
  have HB : Hid (Below w.heap.size w (w.alloc (.cells (qryA q A c) 30))) := (Below.refl _ _).alloc (Nat.le_refl _) _
  have HP := Lib.hid hp
  clear hp
  have HO : Hid (qOk q = true) := by show _ = _; unfold qOk byOk manyQ; rw [hk]; simp
  go_enter Tryz.func16, Tryz.ntmps16
  go_upto_region 1 with (fail)
  generalize w.alloc (.cells (qryA q A c) 30) = w0 at *
  have c0 := H.out.kind
  have c1 := H.out.by_
  rw [hk] at c0
  clear hk
  go_wp2_with fail
  go_ret
  exact ⟨0, rfl, Lib.hid (by simp [HO.out]), HB⟩

set_option maxHeartbeats 4000000 in
set_option maxRecDepth 100000 in
theorem refQ_k2 (q : QV) (hp : ∀ i, i < 16 → q.net.addr i < 256) (A : Option Addr) (c : Nat) (w : World) (hk : q.kind = 2) :
    Calls Tryz.prog 16 #[.agg (qryA q A c)] w (refQ q w) := by
  have H : Hid (QAt w.heap.size q A c (w.alloc (.cells (qryA q A c) 30))) := Row.new w _ _ rfl
  have HB : Hid (Below w.heap.size w (w.alloc (.cells (qryA q A c) 30))) := (Below.refl _ _).alloc (Nat.le_refl _) _
  have HP := Lib.hid hp
  clear hp
  have HO : Hid (qOk q = true) := by show _ = _; unfold qOk byOk manyQ; rw [hk]; simp
  go_enter Tryz.func16, Tryz.ntmps16
  go_upto_region 1 with (fail)
  generalize w.alloc (.cells (qryA q A c) 30) = w0 at *
  have c0 := H.out.kind
  have c1 := H.out.by_
  rw [hk] at c0
  clear hk
  go_wp2_with fail
  go_ret
  exact ⟨0, rfl, Lib.hid (by simp [HO.out]), HB⟩

set_option maxHeartbeats 4000000 in
set_option maxRecDepth 100000 in
theorem refQ_k3 (q : QV) (hp : ∀ i, i < 16 → q.net.addr i < 256) (A : Option Addr) (c : Nat) (w : World) (hk : q.kind = 3) :
    Calls Tryz.prog 16 #[.agg (qryA q A c)] w (refQ q w) := by
  have H : Hid (QAt w.heap.size q A c (w.alloc (.cells (qryA q A c) 30))) := Row.new w _ _ rfl
  have HB : Hid (Below w.heap.size w (w.alloc (.cells (qryA q A c) 30))) := (Below.refl _ _).alloc (Nat.le_refl _) _
  have HP := Lib.hid hp
  clear hp
  have HO : Hid (qOk q = true) := by show _ = _; unfold qOk byOk manyQ; rw [hk]; simp
  go_enter Tryz.func16, Tryz.ntmps16
  go_upto_region 1 with (fail)
  generalize w.alloc (.cells (qryA q A c) 30) = w0 at *
  have c0 := H.out.kind
  have c1 := H.out.by_
  rw [hk] at c0
  clear hk
  go_wp2_with fail
  go_ret
  exact ⟨0, rfl, Lib.hid (by simp [HO.out]), HB⟩

set_option maxHeartbeats 4000000 in
set_option maxRecDepth 100000 in
theorem refQ_k4 (q : QV) (hp : ∀ i, i < 16 → q.net.addr i < 256) (A : Option Addr) (c : Nat) (w : World) (hk : q.kind = 4) :
    Calls Tryz.prog 16 #[.agg (qryA q A c)] w (refQ q w) := by
  have H : Hid (QAt w.heap.size q A c (w.alloc (.cells (qryA q A c) 30))) := Row.new w _ _ rfl
  have HB : Hid (Below w.heap.size w (w.alloc (.cells (qryA q A c) 30))) := (Below.refl _ _).alloc (Nat.le_refl _) _
  have HP := Lib.hid hp
  clear hp
  have HO : Hid (qOk q = true) := by show _ = _; unfold qOk byOk manyQ; rw [hk]; simp
  go_enter Tryz.func16, Tryz.ntmps16
  go_upto_region 1 with (fail)
  generalize w.alloc (.cells (qryA q A c) 30) = w0 at *
  have c0 := H.out.kind
  have c1 := H.out.by_
  rw [hk] at c0
  clear hk
  go_wp2_with fail
  go_ret
  exact ⟨0, rfl, Lib.hid (by simp [HO.out]), HB⟩

set_option maxHeartbeats 4000000 in
set_option maxRecDepth 100000 in
theorem refQ_k6 (q : QV) (hp : ∀ i, i < 16 → q.net.addr i < 256) (A : Option Addr) (c : Nat) (w : World) (hk : q.kind = 6) :
    Calls Tryz.prog 16 #[.agg (qryA q A c)] w (refQ q w) := by
  have H : Hid (QAt w.heap.size q A c (w.alloc (.cells (qryA q A c) 30))) := Row.new w _ _ rfl
  have HB : Hid (Below w.heap.size w (w.alloc (.cells (qryA q A c) 30))) := (Below.refl _ _).alloc (Nat.le_refl _) _
  have HP := Lib.hid hp
  clear hp
  have HO : Hid (qOk q = true) := by show _ = _; unfold qOk byOk manyQ; rw [hk]; simp
  go_enter Tryz.func16, Tryz.ntmps16
  go_upto_region 1 with (fail)
  generalize w.alloc (.cells (qryA q A c) 30) = w0 at *
  have c0 := H.out.kind
  have c1 := H.out.by_
  rw [hk] at c0
  clear hk
  go_wp2_with fail
  go_ret
  exact ⟨0, rfl, Lib.hid (by simp [HO.out]), HB⟩

set_option maxHeartbeats 4000000 in
set_option maxRecDepth 100000 in
theorem refQ_low (q : QV) (hp : ∀ i, i < 16 → q.net.addr i < 256) (A : Option Addr) (c : Nat) (w : World) (hk : q.kind < 1) :
    Calls Tryz.prog 16 #[.agg (qryA q A c)] w (refQ q w) := by
  have H : Hid (QAt w.heap.size q A c (w.alloc (.cells (qryA q A c) 30))) := Row.new w _ _ rfl
  have HB : Hid (Below w.heap.size w (w.alloc (.cells (qryA q A c) 30))) := (Below.refl _ _).alloc (Nat.le_refl _) _
  have HP := Lib.hid hp
  clear hp
  have HO := Lib.hid (qOk_low hk)
  go_enter Tryz.func16, Tryz.ntmps16
  go_upto_region 1 with (fail)
  generalize w.alloc (.cells (qryA q A c) 30) = w0 at *
  have c0 := H.out.kind
  have c1 := H.out.by_
  have d1 : decide (q.kind < 1) = true := decide_eq_true hk
  go_wp2_with fail
  go_ret
  exact ⟨17, rfl, Lib.hid (by simp [HO.out]), HB⟩

set_option maxHeartbeats 4000000 in
set_option maxRecDepth 100000 in
theorem refQ_high (q : QV) (hp : ∀ i, i < 16 → q.net.addr i < 256) (A : Option Addr) (c : Nat) (w : World) (hk : 9 < q.kind) :
    Calls Tryz.prog 16 #[.agg (qryA q A c)] w (refQ q w) := by
  have H : Hid (QAt w.heap.size q A c (w.alloc (.cells (qryA q A c) 30))) := Row.new w _ _ rfl
  have HB : Hid (Below w.heap.size w (w.alloc (.cells (qryA q A c) 30))) := (Below.refl _ _).alloc (Nat.le_refl _) _
  have HP := Lib.hid hp
  clear hp
  have HO := Lib.hid (qOk_high hk)
  go_enter Tryz.func16, Tryz.ntmps16
  go_upto_region 1 with (fail)
  generalize w.alloc (.cells (qryA q A c) 30) = w0 at *
  have c0 := H.out.kind
  have c1 := H.out.by_
  have d1 : decide (9 < q.kind) = true := decide_eq_true hk
  have d0 : decide (q.kind < 1) = false := decide_eq_false (by omega)
  go_wp2_with fail
  go_ret
  exact ⟨17, rfl, Lib.hid (by simp [HO.out]), HB⟩

set_option maxHeartbeats 4000000 in
set_option maxRecDepth 100000 in
theorem refQ_none7 (q : QV) (hp : ∀ i, i < 16 → q.net.addr i < 256) (A : Option Addr) (c : Nat) (w : World) (hk : q.kind = 7) (h1 : ¬ q.by_ = 1) (h2 : ¬ q.by_ = 2) (h3 : ¬ q.by_ = 3) :
    Calls Tryz.prog 16 #[.agg (qryA q A c)] w (refQ q w) := by
  have H : Hid (QAt w.heap.size q A c (w.alloc (.cells (qryA q A c) 30))) := Row.new w _ _ rfl
  have HB : Hid (Below w.heap.size w (w.alloc (.cells (qryA q A c) 30))) := (Below.refl _ _).alloc (Nat.le_refl _) _
  have HP := Lib.hid hp
  clear hp
  have HO : Hid (qOk q = false) := by show _ = _; unfold qOk byOk manyQ; rw [hk]; simp [h1, h2, h3]
  go_enter Tryz.func16, Tryz.ntmps16
  go_upto_region 1 with (fail)
  generalize w.alloc (.cells (qryA q A c) 30) = w0 at *
  have c0 := H.out.kind
  have c1 := H.out.by_
  rw [hk] at c0
  clear hk
  have e1 : (q.by_ != 1) = true := by rw [bne_iff_ne]; exact h1
  have f1 : (q.by_ == 1) = false := by rw [beq_eq_false_iff_ne]; exact h1
  have e2 : (q.by_ != 2) = true := by rw [bne_iff_ne]; exact h2
  have f2 : (q.by_ == 2) = false := by rw [beq_eq_false_iff_ne]; exact h2
  have e3 : (q.by_ != 3) = true := by rw [bne_iff_ne]; exact h3
  have f3 : (q.by_ == 3) = false := by rw [beq_eq_false_iff_ne]; exact h3
  go_wp2_with fail
  go_ret
  exact ⟨17, rfl, Lib.hid (by simp [HO.out]), HB⟩

set_option maxHeartbeats 4000000 in
set_option maxRecDepth 100000 in
theorem refQ_none8 (q : QV) (hp : ∀ i, i < 16 → q.net.addr i < 256) (A : Option Addr) (c : Nat) (w : World) (hk : q.kind = 8) (h1 : ¬ q.by_ = 1) (h3 : ¬ q.by_ = 3) :
    Calls Tryz.prog 16 #[.agg (qryA q A c)] w (refQ q w) := by
  have H : Hid (QAt w.heap.size q A c (w.alloc (.cells (qryA q A c) 30))) := Row.new w _ _ rfl
  have HB : Hid (Below w.heap.size w (w.alloc (.cells (qryA q A c) 30))) := (Below.refl _ _).alloc (Nat.le_refl _) _
  have HP := Lib.hid hp
  clear hp
  have HO : Hid (qOk q = false) := by show _ = _; unfold qOk byOk manyQ; rw [hk]; simp [h1, h3]
  go_enter Tryz.func16, Tryz.ntmps16
  go_upto_region 1 with (fail)
  generalize w.alloc (.cells (qryA q A c) 30) = w0 at *
  have c0 := H.out.kind
  have c1 := H.out.by_
  rw [hk] at c0
  clear hk
  have e1 : (q.by_ != 1) = true := by rw [bne_iff_ne]; exact h1
  have f1 : (q.by_ == 1) = false := by rw [beq_eq_false_iff_ne]; exact h1
  have e3 : (q.by_ != 3) = true := by rw [bne_iff_ne]; exact h3
  have f3 : (q.by_ == 3) = false := by rw [beq_eq_false_iff_ne]; exact h3
  go_wp2_with fail
  go_ret
  exact ⟨17, rfl, Lib.hid (by simp [HO.out]), HB⟩

set_option maxHeartbeats 4000000 in
set_option maxRecDepth 100000 in
theorem refQ_none9 (q : QV) (hp : ∀ i, i < 16 → q.net.addr i < 256) (A : Option Addr) (c : Nat) (w : World) (hk : q.kind = 9) (h4 : ¬ q.by_ = 4) (h5 : ¬ q.by_ = 5) :
    Calls Tryz.prog 16 #[.agg (qryA q A c)] w (refQ q w) := by
  have H : Hid (QAt w.heap.size q A c (w.alloc (.cells (qryA q A c) 30))) := Row.new w _ _ rfl
  have HB : Hid (Below w.heap.size w (w.alloc (.cells (qryA q A c) 30))) := (Below.refl _ _).alloc (Nat.le_refl _) _
  have HP := Lib.hid hp
  clear hp
  have HO : Hid (qOk q = false) := by show _ = _; unfold qOk byOk manyQ; rw [hk]; simp [h4, h5]
  go_enter Tryz.func16, Tryz.ntmps16
  go_upto_region 1 with (fail)
  generalize w.alloc (.cells (qryA q A c) 30) = w0 at *
  have c0 := H.out.kind
  have c1 := H.out.by_
  rw [hk] at c0
  clear hk
  have e4 : (q.by_ != 4) = true := by rw [bne_iff_ne]; exact h4
  have f4 : (q.by_ == 4) = false := by rw [beq_eq_false_iff_ne]; exact h4
  have e5 : (q.by_ != 5) = true := by rw [bne_iff_ne]; exact h5
  have f5 : (q.by_ == 5) = false := by rw [beq_eq_false_iff_ne]; exact h5
  go_wp2_with fail
  go_ret
  exact ⟨17, rfl, Lib.hid (by simp [HO.out]), HB⟩

set_option maxHeartbeats 4000000 in
set_option maxRecDepth 100000 in
theorem refQ_p71true (q : QV) (hp : ∀ i, i < 16 → q.net.addr i < 256) (A : Option Addr) (c : Nat) (w : World) (hk : q.kind = 7) (hb : q.by_ = 1) (hw : q.whole = true) :
    Calls Tryz.prog 16 #[.agg (qryA q A c)] w (refQ q w) := by
  have H : Hid (QAt w.heap.size q A c (w.alloc (.cells (qryA q A c) 30))) := Row.new w _ _ rfl
  have HB : Hid (Below w.heap.size w (w.alloc (.cells (qryA q A c) 30))) := (Below.refl _ _).alloc (Nat.le_refl _) _
  have HP := Lib.hid hp
  clear hp
  have HO : Hid (qOk q = false) := by show _ = _; unfold qOk byOk manyQ; rw [hk, hb, hw]; simp
  go_enter Tryz.func16, Tryz.ntmps16
  go_upto_region 1 with (fail)
  generalize w.alloc (.cells (qryA q A c) 30) = w0 at *
  have c0 := H.out.kind
  have c1 := H.out.by_
  have c22 := H.out.whole
  rw [hk] at c0
  rw [hb] at c1
  rw [hw] at c22
  clear hk hb hw
  go_wp2_with fail
  go_ret
  exact ⟨5, rfl, Lib.hid (by simp [HO.out]), HB⟩

set_option maxHeartbeats 4000000 in
set_option maxRecDepth 100000 in
theorem refQ_p71false (q : QV) (hp : ∀ i, i < 16 → q.net.addr i < 256) (A : Option Addr) (c : Nat) (w : World) (hk : q.kind = 7) (hb : q.by_ = 1) (hw : q.whole = false) :
    Calls Tryz.prog 16 #[.agg (qryA q A c)] w (refQ q w) := by
  have H : Hid (QAt w.heap.size q A c (w.alloc (.cells (qryA q A c) 30))) := Row.new w _ _ rfl
  have HB : Hid (Below w.heap.size w (w.alloc (.cells (qryA q A c) 30))) := (Below.refl _ _).alloc (Nat.le_refl _) _
  have HP := Lib.hid hp
  clear hp
  have HO : Hid (qOk q = true) := by show _ = _; unfold qOk byOk manyQ; rw [hk, hb, hw]; simp
  go_enter Tryz.func16, Tryz.ntmps16
  go_upto_region 1 with (fail)
  generalize w.alloc (.cells (qryA q A c) 30) = w0 at *
  have c0 := H.out.kind
  have c1 := H.out.by_
  have c22 := H.out.whole
  rw [hk] at c0
  rw [hb] at c1
  rw [hw] at c22
  clear hk hb hw
  go_wp2_with fail
  go_ret
  exact ⟨0, rfl, Lib.hid (by simp [HO.out]), HB⟩

set_option maxHeartbeats 4000000 in
set_option maxRecDepth 100000 in
theorem refQ_p72true (q : QV) (hp : ∀ i, i < 16 → q.net.addr i < 256) (A : Option Addr) (c : Nat) (w : World) (hk : q.kind = 7) (hb : q.by_ = 2) (hw : q.whole = true) :
    Calls Tryz.prog 16 #[.agg (qryA q A c)] w (refQ q w) := by
  have H : Hid (QAt w.heap.size q A c (w.alloc (.cells (qryA q A c) 30))) := Row.new w _ _ rfl
  have HB : Hid (Below w.heap.size w (w.alloc (.cells (qryA q A c) 30))) := (Below.refl _ _).alloc (Nat.le_refl _) _
  have HP := Lib.hid hp
  clear hp
  have HO : Hid (qOk q = false) := by show _ = _; unfold qOk byOk manyQ; rw [hk, hb, hw]; simp
  go_enter Tryz.func16, Tryz.ntmps16
  go_upto_region 1 with (fail)
  generalize w.alloc (.cells (qryA q A c) 30) = w0 at *
  have c0 := H.out.kind
  have c1 := H.out.by_
  have c22 := H.out.whole
  rw [hk] at c0
  rw [hb] at c1
  rw [hw] at c22
  clear hk hb hw
  go_wp2_with fail
  go_ret
  exact ⟨5, rfl, Lib.hid (by simp [HO.out]), HB⟩

set_option maxHeartbeats 4000000 in
set_option maxRecDepth 100000 in
theorem refQ_p72false (q : QV) (hp : ∀ i, i < 16 → q.net.addr i < 256) (A : Option Addr) (c : Nat) (w : World) (hk : q.kind = 7) (hb : q.by_ = 2) (hw : q.whole = false) :
    Calls Tryz.prog 16 #[.agg (qryA q A c)] w (refQ q w) := by
  have H : Hid (QAt w.heap.size q A c (w.alloc (.cells (qryA q A c) 30))) := Row.new w _ _ rfl
  have HB : Hid (Below w.heap.size w (w.alloc (.cells (qryA q A c) 30))) := (Below.refl _ _).alloc (Nat.le_refl _) _
  have HP := Lib.hid hp
  clear hp
  have HO : Hid (qOk q = true) := by show _ = _; unfold qOk byOk manyQ; rw [hk, hb, hw]; simp
  go_enter Tryz.func16, Tryz.ntmps16
  go_upto_region 1 with (fail)
  generalize w.alloc (.cells (qryA q A c) 30) = w0 at *
  have c0 := H.out.kind
  have c1 := H.out.by_
  have c22 := H.out.whole
  rw [hk] at c0
  rw [hb] at c1
  rw [hw] at c22
  clear hk hb hw
  go_wp2_with fail
  go_ret
  exact ⟨0, rfl, Lib.hid (by simp [HO.out]), HB⟩

set_option maxHeartbeats 4000000 in
set_option maxRecDepth 100000 in
theorem refQ_p81true (q : QV) (hp : ∀ i, i < 16 → q.net.addr i < 256) (A : Option Addr) (c : Nat) (w : World) (hk : q.kind = 8) (hb : q.by_ = 1) (hw : q.whole = true) :
    Calls Tryz.prog 16 #[.agg (qryA q A c)] w (refQ q w) := by
  have H : Hid (QAt w.heap.size q A c (w.alloc (.cells (qryA q A c) 30))) := Row.new w _ _ rfl
  have HB : Hid (Below w.heap.size w (w.alloc (.cells (qryA q A c) 30))) := (Below.refl _ _).alloc (Nat.le_refl _) _
  have HP := Lib.hid hp
  clear hp
  have HO : Hid (qOk q = false) := by show _ = _; unfold qOk byOk manyQ; rw [hk, hb, hw]; simp
  go_enter Tryz.func16, Tryz.ntmps16
  go_upto_region 1 with (fail)
  generalize w.alloc (.cells (qryA q A c) 30) = w0 at *
  have c0 := H.out.kind
  have c1 := H.out.by_
  have c22 := H.out.whole
  rw [hk] at c0
  rw [hb] at c1
  rw [hw] at c22
  clear hk hb hw
  go_wp2_with fail
  go_ret
  exact ⟨5, rfl, Lib.hid (by simp [HO.out]), HB⟩

set_option maxHeartbeats 4000000 in
set_option maxRecDepth 100000 in
theorem refQ_p81false (q : QV) (hp : ∀ i, i < 16 → q.net.addr i < 256) (A : Option Addr) (c : Nat) (w : World) (hk : q.kind = 8) (hb : q.by_ = 1) (hw : q.whole = false) :
    Calls Tryz.prog 16 #[.agg (qryA q A c)] w (refQ q w) := by
  have H : Hid (QAt w.heap.size q A c (w.alloc (.cells (qryA q A c) 30))) := Row.new w _ _ rfl
  have HB : Hid (Below w.heap.size w (w.alloc (.cells (qryA q A c) 30))) := (Below.refl _ _).alloc (Nat.le_refl _) _
  have HP := Lib.hid hp
  clear hp
  have HO : Hid (qOk q = true) := by show _ = _; unfold qOk byOk manyQ; rw [hk, hb, hw]; simp
  go_enter Tryz.func16, Tryz.ntmps16
  go_upto_region 1 with (fail)
  generalize w.alloc (.cells (qryA q A c) 30) = w0 at *
  have c0 := H.out.kind
  have c1 := H.out.by_
  have c22 := H.out.whole
  rw [hk] at c0
  rw [hb] at c1
  rw [hw] at c22
  clear hk hb hw
  go_wp2_with fail
  go_ret
  exact ⟨0, rfl, Lib.hid (by simp [HO.out]), HB⟩

set_option maxHeartbeats 4000000 in
set_option maxRecDepth 100000 in
theorem refQ_n94_f (q : QV) (hp : ∀ i, i < 16 → q.net.addr i < 256) (A : Option Addr) (c : Nat) (w : World) (hk : q.kind = 9) (hb : q.by_ = 4) (hw : q.whole = false) :
    Calls Tryz.prog 16 #[.agg (qryA q A c)] w (refQ q w) := by
  have H : Hid (QAt w.heap.size q A c (w.alloc (.cells (qryA q A c) 30))) := Row.new w _ _ rfl
  have HB : Hid (Below w.heap.size w (w.alloc (.cells (qryA q A c) 30))) := (Below.refl _ _).alloc (Nat.le_refl _) _
  have HP := Lib.hid hp
  clear hp
  have HO : Hid (qOk q = false) := by show _ = _; unfold qOk byOk manyQ; rw [hk, hb, hw]; simp
  go_enter Tryz.func16, Tryz.ntmps16
  go_upto_region 1 with (fail)
  generalize w.alloc (.cells (qryA q A c) 30) = w0 at *
  have c0 := H.out.kind
  have c1 := H.out.by_
  have c22 := H.out.whole
  rw [hk] at c0
  rw [hb] at c1
  rw [hw] at c22
  clear hk hb hw
  go_wp2_with fail
  go_ret
  exact ⟨5, rfl, Lib.hid (by simp [HO.out]), HB⟩

set_option maxHeartbeats 4000000 in
set_option maxRecDepth 100000 in
theorem refQ_n94_l (q : QV) (hp : ∀ i, i < 16 → q.net.addr i < 256) (A : Option Addr) (c : Nat) (w : World) (hk : q.kind = 9) (hb : q.by_ = 4) (hw : q.whole = true) (hl : q.pieces.length = 1) :
    Calls Tryz.prog 16 #[.agg (qryA q A c)] w (refQ q w) := by
  have H : Hid (QAt w.heap.size q A c (w.alloc (.cells (qryA q A c) 30))) := Row.new w _ _ rfl
  have HB : Hid (Below w.heap.size w (w.alloc (.cells (qryA q A c) 30))) := (Below.refl _ _).alloc (Nat.le_refl _) _
  have HP := Lib.hid hp
  clear hp
  have HO : Hid (qOk q = true) := by show _ = _; unfold qOk byOk manyQ; rw [hk, hb, hw, hl]; simp
  go_enter Tryz.func16, Tryz.ntmps16
  go_upto_region 1 with (fail)
  generalize w.alloc (.cells (qryA q A c) 30) = w0 at *
  have c0 := H.out.kind
  have c1 := H.out.by_
  have c22 := H.out.whole
  have c23 := H.out.pieces
  rw [hk] at c0
  rw [hb] at c1
  rw [hw] at c22
  rw [hl] at c23
  clear hk hb hw hl
  go_wp2_with fail
  go_ret
  exact ⟨0, rfl, Lib.hid (by simp [HO.out]), HB⟩

set_option maxHeartbeats 4000000 in
set_option maxRecDepth 100000 in
theorem refQ_n94_m (q : QV) (hp : ∀ i, i < 16 → q.net.addr i < 256) (A : Option Addr) (c : Nat) (w : World) (hk : q.kind = 9) (hb : q.by_ = 4) (hw : q.whole = true) (hl : ¬ q.pieces.length = 1) :
    Calls Tryz.prog 16 #[.agg (qryA q A c)] w (refQ q w) := by
  have H : Hid (QAt w.heap.size q A c (w.alloc (.cells (qryA q A c) 30))) := Row.new w _ _ rfl
  have HB : Hid (Below w.heap.size w (w.alloc (.cells (qryA q A c) 30))) := (Below.refl _ _).alloc (Nat.le_refl _) _
  have HP := Lib.hid hp
  clear hp
  have HO : Hid (qOk q = false) := by show _ = _; unfold qOk byOk manyQ; rw [hk, hb, hw]; simp [hl]
  go_enter Tryz.func16, Tryz.ntmps16
  go_upto_region 1 with (fail)
  generalize w.alloc (.cells (qryA q A c) 30) = w0 at *
  have c0 := H.out.kind
  have c1 := H.out.by_
  have c22 := H.out.whole
  have c23 := H.out.pieces
  have l2 : ((q.pieces.length : Int) != 1) = true := by rw [bne_iff_ne]; omega
  rw [hk] at c0
  rw [hb] at c1
  rw [hw] at c22
  clear hk hb hw hl
  go_wp2_with fail
  go_ret
  exact ⟨5, rfl, Lib.hid (by simp [HO.out]), HB⟩

set_option maxHeartbeats 4000000 in
set_option maxRecDepth 100000 in
theorem refQ_n95_f (q : QV) (hp : ∀ i, i < 16 → q.net.addr i < 256) (A : Option Addr) (c : Nat) (w : World) (hk : q.kind = 9) (hb : q.by_ = 5) (hw : q.whole = false) :
    Calls Tryz.prog 16 #[.agg (qryA q A c)] w (refQ q w) := by
  have H : Hid (QAt w.heap.size q A c (w.alloc (.cells (qryA q A c) 30))) := Row.new w _ _ rfl
  have HB : Hid (Below w.heap.size w (w.alloc (.cells (qryA q A c) 30))) := (Below.refl _ _).alloc (Nat.le_refl _) _
  have HP := Lib.hid hp
  clear hp
  have HO : Hid (qOk q = false) := by show _ = _; unfold qOk byOk manyQ; rw [hk, hb, hw]; simp
  go_enter Tryz.func16, Tryz.ntmps16
  go_upto_region 1 with (fail)
  generalize w.alloc (.cells (qryA q A c) 30) = w0 at *
  have c0 := H.out.kind
  have c1 := H.out.by_
  have c22 := H.out.whole
  rw [hk] at c0
  rw [hb] at c1
  rw [hw] at c22
  clear hk hb hw
  go_wp2_with fail
  go_ret
  exact ⟨5, rfl, Lib.hid (by simp [HO.out]), HB⟩

set_option maxHeartbeats 4000000 in
set_option maxRecDepth 100000 in
theorem refQ_n95_l (q : QV) (hp : ∀ i, i < 16 → q.net.addr i < 256) (A : Option Addr) (c : Nat) (w : World) (hk : q.kind = 9) (hb : q.by_ = 5) (hw : q.whole = true) (hl : q.pieces.length = 1) :
    Calls Tryz.prog 16 #[.agg (qryA q A c)] w (refQ q w) := by
  have H : Hid (QAt w.heap.size q A c (w.alloc (.cells (qryA q A c) 30))) := Row.new w _ _ rfl
  have HB : Hid (Below w.heap.size w (w.alloc (.cells (qryA q A c) 30))) := (Below.refl _ _).alloc (Nat.le_refl _) _
  have HP := Lib.hid hp
  clear hp
  have HO : Hid (qOk q = true) := by show _ = _; unfold qOk byOk manyQ; rw [hk, hb, hw, hl]; simp
  go_enter Tryz.func16, Tryz.ntmps16
  go_upto_region 1 with (fail)
  generalize w.alloc (.cells (qryA q A c) 30) = w0 at *
  have c0 := H.out.kind
  have c1 := H.out.by_
  have c22 := H.out.whole
  have c23 := H.out.pieces
  rw [hk] at c0
  rw [hb] at c1
  rw [hw] at c22
  rw [hl] at c23
  clear hk hb hw hl
  go_wp2_with fail
  go_ret
  exact ⟨0, rfl, Lib.hid (by simp [HO.out]), HB⟩

set_option maxHeartbeats 4000000 in
set_option maxRecDepth 100000 in
theorem refQ_n95_m (q : QV) (hp : ∀ i, i < 16 → q.net.addr i < 256) (A : Option Addr) (c : Nat) (w : World) (hk : q.kind = 9) (hb : q.by_ = 5) (hw : q.whole = true) (hl : ¬ q.pieces.length = 1) :
    Calls Tryz.prog 16 #[.agg (qryA q A c)] w (refQ q w) := by
  have H : Hid (QAt w.heap.size q A c (w.alloc (.cells (qryA q A c) 30))) := Row.new w _ _ rfl
  have HB : Hid (Below w.heap.size w (w.alloc (.cells (qryA q A c) 30))) := (Below.refl _ _).alloc (Nat.le_refl _) _
  have HP := Lib.hid hp
  clear hp
  have HO : Hid (qOk q = false) := by show _ = _; unfold qOk byOk manyQ; rw [hk, hb, hw]; simp [hl]
  go_enter Tryz.func16, Tryz.ntmps16
  go_upto_region 1 with (fail)
  generalize w.alloc (.cells (qryA q A c) 30) = w0 at *
  have c0 := H.out.kind
  have c1 := H.out.by_
  have c22 := H.out.whole
  have c23 := H.out.pieces
  have l2 : ((q.pieces.length : Int) != 1) = true := by rw [bne_iff_ne]; omega
  rw [hk] at c0
  rw [hb] at c1
  rw [hw] at c22
  clear hk hb hw hl
  go_wp2_with fail
  go_ret
  exact ⟨5, rfl, Lib.hid (by simp [HO.out]), HB⟩

set_option maxHeartbeats 4000000 in
set_option maxRecDepth 100000 in
theorem refQ_k5 (q : QV) (hp : ∀ i, i < 16 → q.net.addr i < 256) (A : Option Addr) (c : Nat) (w : World) (hk : q.kind = 5) :
    Calls Tryz.prog 16 #[.agg (qryA q A c)] w (refQ q w) := by
  have H : Hid (QAt w.heap.size q A c (w.alloc (.cells (qryA q A c) 30))) := Row.new w _ _ rfl
  have HB : Hid (Below w.heap.size w (w.alloc (.cells (qryA q A c) 30))) := (Below.refl _ _).alloc (Nat.le_refl _) _
  have HP := Lib.hid hp
  clear hp
  have HO : Hid (qOk q = ipOk q.net) := by show _ = _; unfold qOk byOk manyQ; rw [hk]; simp
  go_enter Tryz.func16, Tryz.ntmps16
  go_upto_region 1 with (fail)
  generalize w.alloc (.cells (qryA q A c) 30) = w0 at *
  have c0 := H.out.kind
  have c1 := H.out.by_
  rw [hk] at c0
  clear hk
  go_wp2_with (first | ((with_reducible refine wpl_load_net H.out ?hx ?_); (case hx => rfl)) | ((with_reducible refine wpl_load_netG H.out rfl rfl ?hx ?_); (case hx => rfl)))
  refine (rCheck_any q.net HP.out _).mono ?_
  rintro e w2 ⟨z, rfl, hz, h2⟩
  have HB2 := Lib.hid (below_then HB.out HB.out.size h2.out)
  have c02 := (H.out.below h2.out).kind
  have c12 := (H.out.below h2.out).by_
  clear c0 c1 h2 H HB HP
  rcases Decidable.em (z = 0) with h | h
  · have HO2 : Hid (qOk q = true) := HO.out.trans (hz.out.mp h)
    rw [h]
    clear h hz
    go_wp2_with fail
    go_ret
    exact ⟨0, rfl, Lib.hid (by simp [HO2.out]), HB2⟩
  · have HO2 : Hid (qOk q = false) := HO.out.trans (by rw [Bool.eq_false_iff]; exact fun x => h (hz.out.mpr x))
    have e1 : (z != 0) = true := by rw [bne_iff_ne]; exact h
    clear hz
    go_wp2_with fail
    go_ret
    exact ⟨4, rfl, Lib.hid (by simp [HO2.out]), HB2⟩

set_option maxHeartbeats 4000000 in
set_option maxRecDepth 100000 in
theorem refQ_i7 (q : QV) (hp : ∀ i, i < 16 → q.net.addr i < 256) (A : Option Addr) (c : Nat) (w : World) (hk : q.kind = 7) (hb : q.by_ = 3) :
    Calls Tryz.prog 16 #[.agg (qryA q A c)] w (refQ q w) := by
  have H : Hid (QAt w.heap.size q A c (w.alloc (.cells (qryA q A c) 30))) := Row.new w _ _ rfl
  have HB : Hid (Below w.heap.size w (w.alloc (.cells (qryA q A c) 30))) := (Below.refl _ _).alloc (Nat.le_refl _) _
  have HP := Lib.hid hp
  clear hp
  have HO : Hid (qOk q = (ipOk q.net && decide (q.net.bits = widthV q.net))) := by show _ = _; unfold qOk byOk manyQ; rw [hk, hb]; simp
  go_enter Tryz.func16, Tryz.ntmps16
  go_upto_region 1 with (fail)
  generalize w.alloc (.cells (qryA q A c) 30) = w0 at *
  have c0 := H.out.kind
  have c1 := H.out.by_
  rw [hk] at c0
  rw [hb] at c1
  clear hk hb
  go_wp2_with fail
  have HBd2 : Hid (Below w.heap.size w w0.drew) := below_drew HB.out
  have Hd2 : Hid (QAt w.heap.size q A c w0.drew) := H.out
  have hu24 := Tryz.underlying24
  have hi24 : (Tryz.prog.info? 24).map (·.size) = some (preA q.net).toList.length := by rw [Array.length_toList, preA_size]; exact info_pre
  obtain ⟨y, hy⟩ : ∃ y, ipOk q.net = y := ⟨_, rfl⟩
  rw [hy] at HO
  have HZ := Lib.hid hy
  clear hy c0 c1
  cases y with
  | false =>
    refine wp_region_noPanic ?_
    refine wp_region_held_drew (S := fun W => W.cell? ⟨w.heap.size, 20, none⟩ = some (.int .i64 q.net.bits) ∧ W.rangeAt w.heap.size 3 (preA q.net).toList) (by kernel_rfl) ?_ (fun hHeld => ?_)
    · exact ⟨Hd2.out.bits, Hd2.out.range⟩
    refine wpAnyH_take (i := 0) (v := ?_) rfl (by kernel_rfl) (by kernel_rfl) (by kernel_rfl) (fun _ _ _ h => h) (Or.inl ⟨by rfl, ?_⟩) (by assumption) ?_
    rotate_left
    · intro W hSw
      (try dsimp only at hSw)
      go_simp
      (try with_reducible rfl)
    (try simp only [List.getElem_toArray, List.getElem_cons_succ, List.getElem_cons_zero, Act.put, List.setIfInBounds_toArray, List.set_cons_zero, List.set_cons_succ])
    refine wpAnyH_take (i := 1) rfl (by kernel_rfl) (by kernel_rfl) (by kernel_rfl) (fun _ _ _ h => h) (yieldsIf_load_mid (by rfl) _ _ rfl w.heap.size 3 rfl (preA q.net).toList _ (fun W h => h.2) hu24 rfl hi24) (by assumption) ?_
    (try simp only [List.getElem_toArray, List.getElem_cons_succ, List.getElem_cons_zero, Act.put, List.setIfInBounds_toArray, List.set_cons_zero, List.set_cons_succ])
    refine wpAnyH_ready (rs := [2]) (by kernel_rfl) (by simp) ?_
    refine AllReadyH.cons (o := _) rfl (fun K hK => ?_) AllReadyH.nil
    go_simp
    go_at_call 37
    refine (show Calls _ _ #[.agg (preA q.net)] _ _ from rCheck_any q.net HP.out _).mono ?_
    rintro e w3 ⟨z, rfl, hz, h3⟩
    have e1 : (z != 0) = true := by rw [bne_iff_ne]; intro x; have := hz.out.mp x; rw [HZ.out] at this; cases this
    clear hz
    have H3 : Hid (QAt w.heap.size q A c w3) := Hd2.out.below h3.out
    have HB3 : Hid (Below w.heap.size w w3) := below_then HBd2.out HBd2.out.size h3.out
    clear h3
    (try dsimp only)
    refine hK.out _ _ ⟨H3.out.bits, H3.out.range⟩ (fun hHeld => ?_)
    clear hK K
    (try simp only [List.getElem_toArray, List.getElem_cons_succ, List.getElem_cons_zero, Act.put, List.setIfInBounds_toArray, List.set_cons_zero, List.set_cons_succ])
    refine wpAnyH_take (i := 3) (v := ?_) rfl (by kernel_rfl) (by kernel_rfl) (by kernel_rfl) (fun _ _ _ h => h) (Or.inl ⟨by rfl, ?_⟩) (by assumption) ?_
    rotate_left
    · intro W hSw
      (try dsimp only at hSw)
      go_simp
      (try with_reducible rfl)
    (try simp only [List.getElem_toArray, List.getElem_cons_succ, List.getElem_cons_zero, Act.put, List.setIfInBounds_toArray, List.set_cons_zero, List.set_cons_succ])
    refine wpAnyH_take (i := 4) (v := ?_) rfl (by kernel_rfl) (by kernel_rfl) (by kernel_rfl) (fun _ _ _ h => h) (Or.inl ⟨by rfl, ?_⟩) (by assumption) ?_
    rotate_left
    · intro W hSw
      (try dsimp only at hSw)
      go_simp
      (try with_reducible rfl)
    (try simp only [List.getElem_toArray, List.getElem_cons_succ, List.getElem_cons_zero, Act.put, List.setIfInBounds_toArray, List.set_cons_zero, List.set_cons_succ])
    refine wpAnyH_take (i := 5) (v := Go.undef) rfl (by kernel_rfl) (by kernel_rfl) (by kernel_rfl) (fun _ _ _ h => h) (Or.inr ⟨by kernel_rfl, rfl⟩) (by assumption) ?_
    (try simp only [List.getElem_toArray, List.getElem_cons_succ, List.getElem_cons_zero, Act.put, List.setIfInBounds_toArray, List.set_cons_zero, List.set_cons_succ])
    refine wpAnyH_take (i := 6) (v := Go.undef) rfl (by kernel_rfl) (by kernel_rfl) (by kernel_rfl) (fun _ _ _ h => h) (Or.inr ⟨by kernel_rfl, rfl⟩) (by assumption) ?_
    (try simp only [List.getElem_toArray, List.getElem_cons_succ, List.getElem_cons_zero, Act.put, List.setIfInBounds_toArray, List.set_cons_zero, List.set_cons_succ])
    refine wpAnyH_take (i := 7) (v := Go.undef) rfl (by kernel_rfl) (by kernel_rfl) (by kernel_rfl) (fun _ _ _ h => h) (Or.inr ⟨by kernel_rfl, rfl⟩) (by assumption) ?_
    (try simp only [List.getElem_toArray, List.getElem_cons_succ, List.getElem_cons_zero, Act.put, List.setIfInBounds_toArray, List.set_cons_zero, List.set_cons_succ])
    refine wpAnyH_take (i := 8) (v := Go.undef) rfl (by kernel_rfl) (by kernel_rfl) (by kernel_rfl) (fun _ _ _ h => h) (Or.inr ⟨by kernel_rfl, rfl⟩) (by assumption) ?_
    (try simp only [List.getElem_toArray, List.getElem_cons_succ, List.getElem_cons_zero, Act.put, List.setIfInBounds_toArray, List.set_cons_zero, List.set_cons_succ])
    refine wpAnyH_take (i := 9) (v := Go.undef) rfl (by kernel_rfl) (by kernel_rfl) (by kernel_rfl) (fun _ _ _ h => h) (Or.inr ⟨by kernel_rfl, rfl⟩) (by assumption) ?_
    (try simp only [List.getElem_toArray, List.getElem_cons_succ, List.getElem_cons_zero, Act.put, List.setIfInBounds_toArray, List.set_cons_zero, List.set_cons_succ])
    refine wpAnyH_take (i := 10) (v := Go.undef) rfl (by kernel_rfl) (by kernel_rfl) (by kernel_rfl) (fun _ _ _ h => h) (Or.inr ⟨by kernel_rfl, rfl⟩) (by assumption) ?_
    (try simp only [List.getElem_toArray, List.getElem_cons_succ, List.getElem_cons_zero, Act.put, List.setIfInBounds_toArray, List.set_cons_zero, List.set_cons_succ])
    refine wpAnyH_take (i := 11) (v := Go.undef) rfl (by kernel_rfl) (by kernel_rfl) (by kernel_rfl) (fun _ _ _ h => h) (Or.inr ⟨by kernel_rfl, rfl⟩) (by assumption) ?_
    (try simp only [List.getElem_toArray, List.getElem_cons_succ, List.getElem_cons_zero, Act.put, List.setIfInBounds_toArray, List.set_cons_zero, List.set_cons_succ])
    refine wpAnyH_take (i := 12) (v := ?_) rfl (by kernel_rfl) (by kernel_rfl) (by kernel_rfl) (fun _ _ _ h => h) (Or.inl ⟨by rfl, ?_⟩) (by assumption) ?_
    rotate_left
    · intro W hSw
      (try dsimp only at hSw)
      go_simp
      (try with_reducible rfl)
    (try simp only [List.getElem_toArray, List.getElem_cons_succ, List.getElem_cons_zero, Act.put, List.setIfInBounds_toArray, List.set_cons_zero, List.set_cons_succ])
    refine wpAnyH_done (by kernel_rfl) (NoPanic.normal ?_) _
    go_wp2_with fail
    go_ret
    exact ⟨4, rfl, Lib.hid (by simp [HO.out]), HB3⟩
  | true =>
    refine wp_region_noPanic ?_
    refine wp_region_held_drew (S := fun W => W.cell? ⟨w.heap.size, 20, none⟩ = some (.int .i64 q.net.bits) ∧ W.rangeAt w.heap.size 3 (preA q.net).toList) (by kernel_rfl) ?_ (fun hHeld => ?_)
    · exact ⟨Hd2.out.bits, Hd2.out.range⟩
    refine wpAnyH_take (i := 0) (v := ?_) rfl (by kernel_rfl) (by kernel_rfl) (by kernel_rfl) (fun _ _ _ h => h) (Or.inl ⟨by rfl, ?_⟩) (by assumption) ?_
    rotate_left
    · intro W hSw
      (try dsimp only at hSw)
      go_simp
      (try with_reducible rfl)
    (try simp only [List.getElem_toArray, List.getElem_cons_succ, List.getElem_cons_zero, Act.put, List.setIfInBounds_toArray, List.set_cons_zero, List.set_cons_succ])
    refine wpAnyH_take (i := 1) rfl (by kernel_rfl) (by kernel_rfl) (by kernel_rfl) (fun _ _ _ h => h) (yieldsIf_load_mid (by rfl) _ _ rfl w.heap.size 3 rfl (preA q.net).toList _ (fun W h => h.2) hu24 rfl hi24) (by assumption) ?_
    (try simp only [List.getElem_toArray, List.getElem_cons_succ, List.getElem_cons_zero, Act.put, List.setIfInBounds_toArray, List.set_cons_zero, List.set_cons_succ])
    refine wpAnyH_ready (rs := [2]) (by kernel_rfl) (by simp) ?_
    refine AllReadyH.cons (o := _) rfl (fun K hK => ?_) AllReadyH.nil
    go_simp
    go_at_call 37
    refine (show Calls _ _ #[.agg (preA q.net)] _ _ from rCheck_any q.net HP.out _).mono ?_
    rintro e w3 ⟨z, rfl, hz, h3⟩
    obtain rfl : z = 0 := hz.out.mpr HZ.out
    clear hz
    have H3 : Hid (QAt w.heap.size q A c w3) := Hd2.out.below h3.out
    have HB3 : Hid (Below w.heap.size w w3) := below_then HBd2.out HBd2.out.size h3.out
    clear h3
    (try dsimp only)
    refine hK.out _ _ ⟨H3.out.bits, H3.out.range⟩ (fun hHeld => ?_)
    clear hK K
    (try simp only [List.getElem_toArray, List.getElem_cons_succ, List.getElem_cons_zero, Act.put, List.setIfInBounds_toArray, List.set_cons_zero, List.set_cons_succ])
    refine wpAnyH_take (i := 3) (v := ?_) rfl (by kernel_rfl) (by kernel_rfl) (by kernel_rfl) (fun _ _ _ h => h) (Or.inl ⟨by rfl, ?_⟩) (by assumption) ?_
    rotate_left
    · intro W hSw
      (try dsimp only at hSw)
      go_simp
      (try with_reducible rfl)
    (try simp only [List.getElem_toArray, List.getElem_cons_succ, List.getElem_cons_zero, Act.put, List.setIfInBounds_toArray, List.set_cons_zero, List.set_cons_succ])
    refine wpAnyH_take (i := 4) (v := ?_) rfl (by kernel_rfl) (by kernel_rfl) (by kernel_rfl) (fun _ _ _ h => h) (Or.inl ⟨by rfl, ?_⟩) (by assumption) ?_
    rotate_left
    · intro W hSw
      (try dsimp only at hSw)
      go_simp
      (try with_reducible rfl)
    (try simp only [List.getElem_toArray, List.getElem_cons_succ, List.getElem_cons_zero, Act.put, List.setIfInBounds_toArray, List.set_cons_zero, List.set_cons_succ])
    refine wpAnyH_take (i := 5) (v := ?_) rfl (by kernel_rfl) (by kernel_rfl) (by kernel_rfl) (fun _ _ _ h => h) (Or.inl ⟨by rfl, ?_⟩) (by assumption) ?_
    rotate_left
    · intro W hSw
      (try dsimp only at hSw)
      go_simp
      (try with_reducible rfl)
    (try simp only [List.getElem_toArray, List.getElem_cons_succ, List.getElem_cons_zero, Act.put, List.setIfInBounds_toArray, List.set_cons_zero, List.set_cons_succ])
    refine wpAnyH_take (i := 6) (v := ?_) rfl (by kernel_rfl) (by kernel_rfl) (by kernel_rfl) (fun _ _ _ h => h) (Or.inl ⟨by rfl, ?_⟩) (by assumption) ?_
    rotate_left
    · intro W hSw
      (try dsimp only at hSw)
      go_simp
      (try with_reducible rfl)
    (try simp only [List.getElem_toArray, List.getElem_cons_succ, List.getElem_cons_zero, Act.put, List.setIfInBounds_toArray, List.set_cons_zero, List.set_cons_succ])
    refine wpAnyH_take (i := 7) (v := ?_) rfl (by kernel_rfl) (by kernel_rfl) (by kernel_rfl) (fun _ _ _ h => h) (Or.inl ⟨by rfl, ?_⟩) (by assumption) ?_
    rotate_left
    · intro W hSw
      (try dsimp only at hSw)
      go_simp
      (try with_reducible rfl)
    (try simp only [List.getElem_toArray, List.getElem_cons_succ, List.getElem_cons_zero, Act.put, List.setIfInBounds_toArray, List.set_cons_zero, List.set_cons_succ])
    refine wpAnyH_take (i := 8) (v := ?_) rfl (by kernel_rfl) (by kernel_rfl) (by kernel_rfl) (fun _ _ _ h => h) (Or.inl ⟨by rfl, ?_⟩) (by assumption) ?_
    rotate_left
    · intro W hSw
      (try dsimp only at hSw)
      go_simp
      (try with_reducible rfl)
    (try simp only [List.getElem_toArray, List.getElem_cons_succ, List.getElem_cons_zero, Act.put, List.setIfInBounds_toArray, List.set_cons_zero, List.set_cons_succ])
    refine wpAnyH_take (i := 9) rfl (by kernel_rfl) (by kernel_rfl) (by kernel_rfl) (fun _ _ _ h => h) (yieldsIf_load_mid (by rfl) _ _ rfl w.heap.size 3 rfl (preA q.net).toList _ (fun W h => h.2) hu24 rfl hi24) (by assumption) ?_
    (try simp only [List.getElem_toArray, List.getElem_cons_succ, List.getElem_cons_zero, Act.put, List.setIfInBounds_toArray, List.set_cons_zero, List.set_cons_succ])
    refine wpAnyH_ready (rs := [10]) (by kernel_rfl) (by simp) ?_
    refine AllReadyH.cons (o := _) rfl (fun K hK => ?_) AllReadyH.nil
    go_simp
    go_at_call 38
    refine (show Calls _ _ #[.agg (preA q.net)] _ _ from rWidth_any q.net _).mono ?_
    rintro e w4 ⟨rfl, h4⟩
    have H4 : Hid (QAt w.heap.size q A c w4) := H3.out.below h4.out
    have HB4 : Hid (Below w.heap.size w w4) := below_then HB3.out HB3.out.size h4.out
    clear h4
    (try dsimp only)
    refine hK.out _ _ ⟨H4.out.bits, H4.out.range⟩ (fun hHeld => ?_)
    clear hK K
    (try simp only [List.getElem_toArray, List.getElem_cons_succ, List.getElem_cons_zero, Act.put, List.setIfInBounds_toArray, List.set_cons_zero, List.set_cons_succ])
    refine wpAnyH_take (i := 11) (v := ?_) rfl (by kernel_rfl) (by kernel_rfl) (by kernel_rfl) (fun _ _ _ h => h) (Or.inl ⟨by rfl, ?_⟩) (by assumption) ?_
    rotate_left
    · intro W hSw
      (try dsimp only at hSw)
      go_simp
      (try with_reducible rfl)
    (try simp only [List.getElem_toArray, List.getElem_cons_succ, List.getElem_cons_zero, Act.put, List.setIfInBounds_toArray, List.set_cons_zero, List.set_cons_succ])
    refine wpAnyH_take (i := 12) (v := ?_) rfl (by kernel_rfl) (by kernel_rfl) (by kernel_rfl) (fun _ _ _ h => h) (Or.inl ⟨by rfl, ?_⟩) (by assumption) ?_
    rotate_left
    · intro W hSw
      (try dsimp only at hSw)
      go_simp
      (try with_reducible rfl)
    (try simp only [List.getElem_toArray, List.getElem_cons_succ, List.getElem_cons_zero, Act.put, List.setIfInBounds_toArray, List.set_cons_zero, List.set_cons_succ])
    refine wpAnyH_done (by kernel_rfl) (NoPanic.normal ?_) _
    by_cases hw : q.net.bits = widthV q.net
    · have e1 : (q.net.bits != widthV q.net) = false := by rw [bne_eq_false_iff_eq]; exact hw
      have HO2 : Hid (qOk q = true) := by show _ = _; rw [HO.out, decide_eq_true hw]; rfl
      clear hw
      go_wp2_with fail
      go_ret
      exact ⟨0, rfl, Lib.hid (by simp [HO2.out]), HB4⟩
    · have e1 : (q.net.bits != widthV q.net) = true := by rw [bne_iff_ne]; exact hw
      have HO2 : Hid (qOk q = false) := by show _ = _; rw [HO.out, decide_eq_false hw]; rfl
      clear hw
      go_wp2_with fail
      go_ret
      exact ⟨4, rfl, Lib.hid (by simp [HO2.out]), HB4⟩

set_option maxHeartbeats 4000000 in
set_option maxRecDepth 100000 in
theorem refQ_i8 (q : QV) (hp : ∀ i, i < 16 → q.net.addr i < 256) (A : Option Addr) (c : Nat) (w : World) (hk : q.kind = 8) (hb : q.by_ = 3) :
    Calls Tryz.prog 16 #[.agg (qryA q A c)] w (refQ q w) := by
  have H : Hid (QAt w.heap.size q A c (w.alloc (.cells (qryA q A c) 30))) := Row.new w _ _ rfl
  have HB : Hid (Below w.heap.size w (w.alloc (.cells (qryA q A c) 30))) := (Below.refl _ _).alloc (Nat.le_refl _) _
  have HP := Lib.hid hp
  clear hp
  have HO : Hid (qOk q = (ipOk q.net && decide (q.net.bits = widthV q.net))) := by show _ = _; unfold qOk byOk manyQ; rw [hk, hb]; simp
  go_enter Tryz.func16, Tryz.ntmps16
  go_upto_region 1 with (fail)
  generalize w.alloc (.cells (qryA q A c) 30) = w0 at *
  have c0 := H.out.kind
  have c1 := H.out.by_
  rw [hk] at c0
  rw [hb] at c1
  clear hk hb
  go_wp2_with fail
  have HBd2 : Hid (Below w.heap.size w w0.drew) := below_drew HB.out
  have Hd2 : Hid (QAt w.heap.size q A c w0.drew) := H.out
  have hu24 := Tryz.underlying24
  have hi24 : (Tryz.prog.info? 24).map (·.size) = some (preA q.net).toList.length := by rw [Array.length_toList, preA_size]; exact info_pre
  obtain ⟨y, hy⟩ : ∃ y, ipOk q.net = y := ⟨_, rfl⟩
  rw [hy] at HO
  have HZ := Lib.hid hy
  clear hy c0 c1
  cases y with
  | false =>
    refine wp_region_noPanic ?_
    refine wp_region_held_drew (S := fun W => W.cell? ⟨w.heap.size, 20, none⟩ = some (.int .i64 q.net.bits) ∧ W.rangeAt w.heap.size 3 (preA q.net).toList) (by kernel_rfl) ?_ (fun hHeld => ?_)
    · exact ⟨Hd2.out.bits, Hd2.out.range⟩
    refine wpAnyH_take (i := 0) (v := ?_) rfl (by kernel_rfl) (by kernel_rfl) (by kernel_rfl) (fun _ _ _ h => h) (Or.inl ⟨by rfl, ?_⟩) (by assumption) ?_
    rotate_left
    · intro W hSw
      (try dsimp only at hSw)
      go_simp
      (try with_reducible rfl)
    (try simp only [List.getElem_toArray, List.getElem_cons_succ, List.getElem_cons_zero, Act.put, List.setIfInBounds_toArray, List.set_cons_zero, List.set_cons_succ])
    refine wpAnyH_take (i := 1) rfl (by kernel_rfl) (by kernel_rfl) (by kernel_rfl) (fun _ _ _ h => h) (yieldsIf_load_mid (by rfl) _ _ rfl w.heap.size 3 rfl (preA q.net).toList _ (fun W h => h.2) hu24 rfl hi24) (by assumption) ?_
    (try simp only [List.getElem_toArray, List.getElem_cons_succ, List.getElem_cons_zero, Act.put, List.setIfInBounds_toArray, List.set_cons_zero, List.set_cons_succ])
    refine wpAnyH_ready (rs := [2]) (by kernel_rfl) (by simp) ?_
    refine AllReadyH.cons (o := _) rfl (fun K hK => ?_) AllReadyH.nil
    go_simp
    go_at_call 37
    refine (show Calls _ _ #[.agg (preA q.net)] _ _ from rCheck_any q.net HP.out _).mono ?_
    rintro e w3 ⟨z, rfl, hz, h3⟩
    have e1 : (z != 0) = true := by rw [bne_iff_ne]; intro x; have := hz.out.mp x; rw [HZ.out] at this; cases this
    clear hz
    have H3 : Hid (QAt w.heap.size q A c w3) := Hd2.out.below h3.out
    have HB3 : Hid (Below w.heap.size w w3) := below_then HBd2.out HBd2.out.size h3.out
    clear h3
    (try dsimp only)
    refine hK.out _ _ ⟨H3.out.bits, H3.out.range⟩ (fun hHeld => ?_)
    clear hK K
    (try simp only [List.getElem_toArray, List.getElem_cons_succ, List.getElem_cons_zero, Act.put, List.setIfInBounds_toArray, List.set_cons_zero, List.set_cons_succ])
    refine wpAnyH_take (i := 3) (v := ?_) rfl (by kernel_rfl) (by kernel_rfl) (by kernel_rfl) (fun _ _ _ h => h) (Or.inl ⟨by rfl, ?_⟩) (by assumption) ?_
    rotate_left
    · intro W hSw
      (try dsimp only at hSw)
      go_simp
      (try with_reducible rfl)
    (try simp only [List.getElem_toArray, List.getElem_cons_succ, List.getElem_cons_zero, Act.put, List.setIfInBounds_toArray, List.set_cons_zero, List.set_cons_succ])
    refine wpAnyH_take (i := 4) (v := ?_) rfl (by kernel_rfl) (by kernel_rfl) (by kernel_rfl) (fun _ _ _ h => h) (Or.inl ⟨by rfl, ?_⟩) (by assumption) ?_
    rotate_left
    · intro W hSw
      (try dsimp only at hSw)
      go_simp
      (try with_reducible rfl)
    (try simp only [List.getElem_toArray, List.getElem_cons_succ, List.getElem_cons_zero, Act.put, List.setIfInBounds_toArray, List.set_cons_zero, List.set_cons_succ])
    refine wpAnyH_take (i := 5) (v := Go.undef) rfl (by kernel_rfl) (by kernel_rfl) (by kernel_rfl) (fun _ _ _ h => h) (Or.inr ⟨by kernel_rfl, rfl⟩) (by assumption) ?_
    (try simp only [List.getElem_toArray, List.getElem_cons_succ, List.getElem_cons_zero, Act.put, List.setIfInBounds_toArray, List.set_cons_zero, List.set_cons_succ])
    refine wpAnyH_take (i := 6) (v := Go.undef) rfl (by kernel_rfl) (by kernel_rfl) (by kernel_rfl) (fun _ _ _ h => h) (Or.inr ⟨by kernel_rfl, rfl⟩) (by assumption) ?_
    (try simp only [List.getElem_toArray, List.getElem_cons_succ, List.getElem_cons_zero, Act.put, List.setIfInBounds_toArray, List.set_cons_zero, List.set_cons_succ])
    refine wpAnyH_take (i := 7) (v := Go.undef) rfl (by kernel_rfl) (by kernel_rfl) (by kernel_rfl) (fun _ _ _ h => h) (Or.inr ⟨by kernel_rfl, rfl⟩) (by assumption) ?_
    (try simp only [List.getElem_toArray, List.getElem_cons_succ, List.getElem_cons_zero, Act.put, List.setIfInBounds_toArray, List.set_cons_zero, List.set_cons_succ])
    refine wpAnyH_take (i := 8) (v := Go.undef) rfl (by kernel_rfl) (by kernel_rfl) (by kernel_rfl) (fun _ _ _ h => h) (Or.inr ⟨by kernel_rfl, rfl⟩) (by assumption) ?_
    (try simp only [List.getElem_toArray, List.getElem_cons_succ, List.getElem_cons_zero, Act.put, List.setIfInBounds_toArray, List.set_cons_zero, List.set_cons_succ])
    refine wpAnyH_take (i := 9) (v := Go.undef) rfl (by kernel_rfl) (by kernel_rfl) (by kernel_rfl) (fun _ _ _ h => h) (Or.inr ⟨by kernel_rfl, rfl⟩) (by assumption) ?_
    (try simp only [List.getElem_toArray, List.getElem_cons_succ, List.getElem_cons_zero, Act.put, List.setIfInBounds_toArray, List.set_cons_zero, List.set_cons_succ])
    refine wpAnyH_take (i := 10) (v := Go.undef) rfl (by kernel_rfl) (by kernel_rfl) (by kernel_rfl) (fun _ _ _ h => h) (Or.inr ⟨by kernel_rfl, rfl⟩) (by assumption) ?_
    (try simp only [List.getElem_toArray, List.getElem_cons_succ, List.getElem_cons_zero, Act.put, List.setIfInBounds_toArray, List.set_cons_zero, List.set_cons_succ])
    refine wpAnyH_take (i := 11) (v := Go.undef) rfl (by kernel_rfl) (by kernel_rfl) (by kernel_rfl) (fun _ _ _ h => h) (Or.inr ⟨by kernel_rfl, rfl⟩) (by assumption) ?_
    (try simp only [List.getElem_toArray, List.getElem_cons_succ, List.getElem_cons_zero, Act.put, List.setIfInBounds_toArray, List.set_cons_zero, List.set_cons_succ])
    refine wpAnyH_take (i := 12) (v := ?_) rfl (by kernel_rfl) (by kernel_rfl) (by kernel_rfl) (fun _ _ _ h => h) (Or.inl ⟨by rfl, ?_⟩) (by assumption) ?_
    rotate_left
    · intro W hSw
      (try dsimp only at hSw)
      go_simp
      (try with_reducible rfl)
    (try simp only [List.getElem_toArray, List.getElem_cons_succ, List.getElem_cons_zero, Act.put, List.setIfInBounds_toArray, List.set_cons_zero, List.set_cons_succ])
    refine wpAnyH_done (by kernel_rfl) (NoPanic.normal ?_) _
    go_wp2_with fail
    go_ret
    exact ⟨4, rfl, Lib.hid (by simp [HO.out]), HB3⟩
  | true =>
    refine wp_region_noPanic ?_
    refine wp_region_held_drew (S := fun W => W.cell? ⟨w.heap.size, 20, none⟩ = some (.int .i64 q.net.bits) ∧ W.rangeAt w.heap.size 3 (preA q.net).toList) (by kernel_rfl) ?_ (fun hHeld => ?_)
    · exact ⟨Hd2.out.bits, Hd2.out.range⟩
    refine wpAnyH_take (i := 0) (v := ?_) rfl (by kernel_rfl) (by kernel_rfl) (by kernel_rfl) (fun _ _ _ h => h) (Or.inl ⟨by rfl, ?_⟩) (by assumption) ?_
    rotate_left
    · intro W hSw
      (try dsimp only at hSw)
      go_simp
      (try with_reducible rfl)
    (try simp only [List.getElem_toArray, List.getElem_cons_succ, List.getElem_cons_zero, Act.put, List.setIfInBounds_toArray, List.set_cons_zero, List.set_cons_succ])
    refine wpAnyH_take (i := 1) rfl (by kernel_rfl) (by kernel_rfl) (by kernel_rfl) (fun _ _ _ h => h) (yieldsIf_load_mid (by rfl) _ _ rfl w.heap.size 3 rfl (preA q.net).toList _ (fun W h => h.2) hu24 rfl hi24) (by assumption) ?_
    (try simp only [List.getElem_toArray, List.getElem_cons_succ, List.getElem_cons_zero, Act.put, List.setIfInBounds_toArray, List.set_cons_zero, List.set_cons_succ])
    refine wpAnyH_ready (rs := [2]) (by kernel_rfl) (by simp) ?_
    refine AllReadyH.cons (o := _) rfl (fun K hK => ?_) AllReadyH.nil
    go_simp
    go_at_call 37
    refine (show Calls _ _ #[.agg (preA q.net)] _ _ from rCheck_any q.net HP.out _).mono ?_
    rintro e w3 ⟨z, rfl, hz, h3⟩
    obtain rfl : z = 0 := hz.out.mpr HZ.out
    clear hz
    have H3 : Hid (QAt w.heap.size q A c w3) := Hd2.out.below h3.out
    have HB3 : Hid (Below w.heap.size w w3) := below_then HBd2.out HBd2.out.size h3.out
    clear h3
    (try dsimp only)
    refine hK.out _ _ ⟨H3.out.bits, H3.out.range⟩ (fun hHeld => ?_)
    clear hK K
    (try simp only [List.getElem_toArray, List.getElem_cons_succ, List.getElem_cons_zero, Act.put, List.setIfInBounds_toArray, List.set_cons_zero, List.set_cons_succ])
    refine wpAnyH_take (i := 3) (v := ?_) rfl (by kernel_rfl) (by kernel_rfl) (by kernel_rfl) (fun _ _ _ h => h) (Or.inl ⟨by rfl, ?_⟩) (by assumption) ?_
    rotate_left
    · intro W hSw
      (try dsimp only at hSw)
      go_simp
      (try with_reducible rfl)
    (try simp only [List.getElem_toArray, List.getElem_cons_succ, List.getElem_cons_zero, Act.put, List.setIfInBounds_toArray, List.set_cons_zero, List.set_cons_succ])
    refine wpAnyH_take (i := 4) (v := ?_) rfl (by kernel_rfl) (by kernel_rfl) (by kernel_rfl) (fun _ _ _ h => h) (Or.inl ⟨by rfl, ?_⟩) (by assumption) ?_
    rotate_left
    · intro W hSw
      (try dsimp only at hSw)
      go_simp
      (try with_reducible rfl)
    (try simp only [List.getElem_toArray, List.getElem_cons_succ, List.getElem_cons_zero, Act.put, List.setIfInBounds_toArray, List.set_cons_zero, List.set_cons_succ])
    refine wpAnyH_take (i := 5) (v := ?_) rfl (by kernel_rfl) (by kernel_rfl) (by kernel_rfl) (fun _ _ _ h => h) (Or.inl ⟨by rfl, ?_⟩) (by assumption) ?_
    rotate_left
    · intro W hSw
      (try dsimp only at hSw)
      go_simp
      (try with_reducible rfl)
    (try simp only [List.getElem_toArray, List.getElem_cons_succ, List.getElem_cons_zero, Act.put, List.setIfInBounds_toArray, List.set_cons_zero, List.set_cons_succ])
    refine wpAnyH_take (i := 6) (v := ?_) rfl (by kernel_rfl) (by kernel_rfl) (by kernel_rfl) (fun _ _ _ h => h) (Or.inl ⟨by rfl, ?_⟩) (by assumption) ?_
    rotate_left
    · intro W hSw
      (try dsimp only at hSw)
      go_simp
      (try with_reducible rfl)
    (try simp only [List.getElem_toArray, List.getElem_cons_succ, List.getElem_cons_zero, Act.put, List.setIfInBounds_toArray, List.set_cons_zero, List.set_cons_succ])
    refine wpAnyH_take (i := 7) (v := ?_) rfl (by kernel_rfl) (by kernel_rfl) (by kernel_rfl) (fun _ _ _ h => h) (Or.inl ⟨by rfl, ?_⟩) (by assumption) ?_
    rotate_left
    · intro W hSw
      (try dsimp only at hSw)
      go_simp
      (try with_reducible rfl)
    (try simp only [List.getElem_toArray, List.getElem_cons_succ, List.getElem_cons_zero, Act.put, List.setIfInBounds_toArray, List.set_cons_zero, List.set_cons_succ])
    refine wpAnyH_take (i := 8) (v := ?_) rfl (by kernel_rfl) (by kernel_rfl) (by kernel_rfl) (fun _ _ _ h => h) (Or.inl ⟨by rfl, ?_⟩) (by assumption) ?_
    rotate_left
    · intro W hSw
      (try dsimp only at hSw)
      go_simp
      (try with_reducible rfl)
    (try simp only [List.getElem_toArray, List.getElem_cons_succ, List.getElem_cons_zero, Act.put, List.setIfInBounds_toArray, List.set_cons_zero, List.set_cons_succ])
    refine wpAnyH_take (i := 9) rfl (by kernel_rfl) (by kernel_rfl) (by kernel_rfl) (fun _ _ _ h => h) (yieldsIf_load_mid (by rfl) _ _ rfl w.heap.size 3 rfl (preA q.net).toList _ (fun W h => h.2) hu24 rfl hi24) (by assumption) ?_
    (try simp only [List.getElem_toArray, List.getElem_cons_succ, List.getElem_cons_zero, Act.put, List.setIfInBounds_toArray, List.set_cons_zero, List.set_cons_succ])
    refine wpAnyH_ready (rs := [10]) (by kernel_rfl) (by simp) ?_
    refine AllReadyH.cons (o := _) rfl (fun K hK => ?_) AllReadyH.nil
    go_simp
    go_at_call 38
    refine (show Calls _ _ #[.agg (preA q.net)] _ _ from rWidth_any q.net _).mono ?_
    rintro e w4 ⟨rfl, h4⟩
    have H4 : Hid (QAt w.heap.size q A c w4) := H3.out.below h4.out
    have HB4 : Hid (Below w.heap.size w w4) := below_then HB3.out HB3.out.size h4.out
    clear h4
    (try dsimp only)
    refine hK.out _ _ ⟨H4.out.bits, H4.out.range⟩ (fun hHeld => ?_)
    clear hK K
    (try simp only [List.getElem_toArray, List.getElem_cons_succ, List.getElem_cons_zero, Act.put, List.setIfInBounds_toArray, List.set_cons_zero, List.set_cons_succ])
    refine wpAnyH_take (i := 11) (v := ?_) rfl (by kernel_rfl) (by kernel_rfl) (by kernel_rfl) (fun _ _ _ h => h) (Or.inl ⟨by rfl, ?_⟩) (by assumption) ?_
    rotate_left
    · intro W hSw
      (try dsimp only at hSw)
      go_simp
      (try with_reducible rfl)
    (try simp only [List.getElem_toArray, List.getElem_cons_succ, List.getElem_cons_zero, Act.put, List.setIfInBounds_toArray, List.set_cons_zero, List.set_cons_succ])
    refine wpAnyH_take (i := 12) (v := ?_) rfl (by kernel_rfl) (by kernel_rfl) (by kernel_rfl) (fun _ _ _ h => h) (Or.inl ⟨by rfl, ?_⟩) (by assumption) ?_
    rotate_left
    · intro W hSw
      (try dsimp only at hSw)
      go_simp
      (try with_reducible rfl)
    (try simp only [List.getElem_toArray, List.getElem_cons_succ, List.getElem_cons_zero, Act.put, List.setIfInBounds_toArray, List.set_cons_zero, List.set_cons_succ])
    refine wpAnyH_done (by kernel_rfl) (NoPanic.normal ?_) _
    by_cases hw : q.net.bits = widthV q.net
    · have e1 : (q.net.bits != widthV q.net) = false := by rw [bne_eq_false_iff_eq]; exact hw
      have HO2 : Hid (qOk q = true) := by show _ = _; rw [HO.out, decide_eq_true hw]; rfl
      clear hw
      go_wp2_with fail
      go_ret
      exact ⟨0, rfl, Lib.hid (by simp [HO2.out]), HB4⟩
    · have e1 : (q.net.bits != widthV q.net) = true := by rw [bne_iff_ne]; exact hw
      have HO2 : Hid (qOk q = false) := by show _ = _; rw [HO.out, decide_eq_false hw]; rfl
      clear hw
      go_wp2_with fail
      go_ret
      exact ⟨4, rfl, Lib.hid (by simp [HO2.out]), HB4⟩

/-- The document's check of a query. -/
theorem rQCheck_any (q : QV) (hp : ∀ i, i < 16 → q.net.addr i < 256) (A : Option Addr) (c : Nat) (w : World) :
    Calls Tryz.prog 16 #[.agg (qryA q A c)] w (refQ q w) := by
  by_cases hl : q.kind < 1
  · exact refQ_low q hp A c w hl
  by_cases hh : 9 < q.kind
  · exact refQ_high q hp A c w hh
  have h : q.kind = 1 ∨ q.kind = 2 ∨ q.kind = 3 ∨ q.kind = 4 ∨ q.kind = 5 ∨ q.kind = 6 ∨ q.kind = 7 ∨ q.kind = 8 ∨ q.kind = 9 := by omega
  rcases h with h | h | h | h | h | h | h | h | h
  · exact refQ_k1 q hp A c w h
  · exact refQ_k2 q hp A c w h
  · exact refQ_k3 q hp A c w h
  · exact refQ_k4 q hp A c w h
  · exact refQ_k5 q hp A c w h
  · exact refQ_k6 q hp A c w h
  · by_cases b3 : q.by_ = 3
    · exact refQ_i7 q hp A c w h b3
    by_cases b1 : q.by_ = 1
    · cases hw : q.whole with
      | true => exact refQ_p71true q hp A c w h b1 hw
      | false => exact refQ_p71false q hp A c w h b1 hw
    by_cases b2 : q.by_ = 2
    · cases hw : q.whole with
      | true => exact refQ_p72true q hp A c w h b2 hw
      | false => exact refQ_p72false q hp A c w h b2 hw
    exact refQ_none7 q hp A c w h b1 b2 b3
  · by_cases b3 : q.by_ = 3
    · exact refQ_i8 q hp A c w h b3
    by_cases b1 : q.by_ = 1
    · cases hw : q.whole with
      | true => exact refQ_p81true q hp A c w h b1 hw
      | false => exact refQ_p81false q hp A c w h b1 hw
    exact refQ_none8 q hp A c w h b1 b3
  · by_cases b4 : q.by_ = 4
    · cases hw : q.whole with
      | false => exact refQ_n94_f q hp A c w h b4 hw
      | true =>
        by_cases hl : q.pieces.length = 1
        · exact refQ_n94_l q hp A c w h b4 hw hl
        · exact refQ_n94_m q hp A c w h b4 hw hl
    by_cases b5 : q.by_ = 5
    · cases hw : q.whole with
      | false => exact refQ_n95_f q hp A c w h b5 hw
      | true =>
        by_cases hl : q.pieces.length = 1
        · exact refQ_n95_l q hp A c w h b5 hw hl
        · exact refQ_n95_m q hp A c w h b5 hw hl
    exact refQ_none9 q hp A c w h b4 b5
end Go.Proofs.YtngokkebjadoiaaGreatDoor

