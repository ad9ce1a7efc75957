/- What the claim uses of the text J4. -/
import Derived.Test.YtpdpgppaoipnlaaDoorUJ3
set_option linter.unusedVariables false
set_option linter.unusedSimpArgs false
namespace Go.Proofs.YtpdpgppaoipnlaaDoor
section
open Go.RowKit Go.PlainAid Go.Extern.Stop Go.Stop Go.Extern
open Go.Proofs.YtpdpgppaoipnlaaDoorW.PrintWords hiding bt
open Go.Proofs.YtpdpgppaoipnlaaDoorW.PrintMore

/-- A block of one cell. -/
def Cl (b : Nat) (v : Value) (t : TypeId) (w : World) : Prop := w.heap[b]? = some (.cells #[v] t (0, 0))
theorem Cl.cell {b : Nat} {v : Value} {t : TypeId} {w : World} (h : Cl b v t w) : w.cell? ⟨b, 0, none⟩ = some v := by rw [Lib.cell_of_heap h]; rfl
theorem Cl.frozen {b : Nat} {v : Value} {t : TypeId} {w : World} (h : Cl b v t w) : w.frozen? ⟨b, 0, none⟩ = false := Lib.frozen_of_heap h 0
theorem Cl.lt {b : Nat} {v : Value} {t : TypeId} {w : World} (h : Cl b v t w) : b < w.heap.size := (Array.getElem?_eq_some_iff.1 h).1
theorem Cl.kept {b : Nat} {v : Value} {t : TypeId} {w w' : World} {row : Option Nat} (h : Cl b v t w) (hg : w.grownBy w' row) (hr : some b ≠ row) : Cl b v t w' := (hg.block b h.lt hr).trans h
theorem Cl.below {b : Nat} {v : Value} {t : TypeId} {w w' : World} (h : Cl b v t w) (hb : Below w.heap.size w w') : Cl b v t w' := (hb.block b h.lt).trans h
theorem Cl.set {b : Nat} {v : Value} {t : TypeId} {w : World} (h : Cl b v t w) (u : Value) : Cl b u t (w.setCell ⟨b, 0, none⟩ u) := by
  unfold Cl at *
  simp [World.setCell, Array.getElem?_modify, h]
theorem Cl.far {b : Nat} {v : Value} {t : TypeId} {w : World} (h : Cl b v t w) {c o : Nat} (hc : c ≠ b) (u : Value) : Cl b v t (w.setCell ⟨c, o, none⟩ u) := by
  unfold Cl at *
  simp [World.setCell, Array.getElem?_modify, h, hc]
theorem Cl.new (w : World) (v : Value) (t : TypeId) : Cl w.heap.size v t (w.alloc (.cells #[v] t)) := Go.heap_alloc_new w _
theorem Cl.new' (w : World) (v : Value) (t : TypeId) {n : Nat} (h : n = w.heap.size) : Cl n v t (w.alloc (.cells #[v] t)) := by subst h; exact Cl.new w v t
theorem Cl.old {b : Nat} {v : Value} {t : TypeId} {w : World} (h : Cl b v t w) (o : Obj) : Cl b v t (w.alloc o) := (Go.heap_alloc_old _ _ h.lt).trans h

theorem Rd.new' (w : World) (s : ByteArray) (i : Nat) {n : Nat} (h : n = w.heap.size) : Rd n s i (w.alloc (.cells #[.string s, .int .i64 i] 79)) := by subst h; exact Go.heap_alloc_new w _
theorem errV_at {E : Nat → Addr} (W : World) (at_ : Int) (k : Nat) (c : Int) (hc : c = k) (h1 : 1 ≤ k) (h2 : k ≤ 18) {n : Nat} (hn : n = W.heap.size) :
    ErrV E (W.alloc (.cells #[.int .i64 at_, .iface 180 (.pointer (some (E k)))] 71)) (.iface 69 (.pointer (some ⟨n, 0, none⟩))) at_ c := by subst hn; exact ErrV.new hc h1 h2
/-- The results' own variables. -/
structure Res3 (n : Nat) (v0 : Value) (t0 : TypeId) (v1 v2 : Value) (w : World) : Prop where
  a : Cl n v0 t0 w
  b : Cl (n + 1) v1 3 w
  c : Cl (n + 2) v2 28 w
theorem Res3.kept {n b : Nat} {v0 v1 v2 : Value} {t0 : TypeId} {w w' : World} (h : Res3 n v0 t0 v1 v2 w) (hg : w.grownBy w' (some b)) (hb : n + 2 < b) : Res3 n v0 t0 v1 v2 w' :=
  ⟨h.a.kept hg (by simp; omega), h.b.kept hg (by simp; omega), h.c.kept hg (by simp; omega)⟩
end

section
open Go.RowKit Go.PlainAid Go.Extern.Stop Go.Stop Go.Extern
open Go.Proofs.YtpdpgppaoipnlaaDoorW.PrintWords hiding bt
open Go.Proofs.YtpdpgppaoipnlaaDoorW.PrintMore

theorem val_all {E : Nat → Addr} : ∀ L : Nat, L ≤ 32 → ValAll E L
  | 0, _ => value_zero
  | L + 1, h => value_step L (by omega) (val_all L (by omega)) (fun b s i w lev hlev hl hs hr hi => object_any b s L i w lev (by omega) hlev (val_all L (by omega)) hl hs hr hi)

/-- The value at a place, the place behind it; the place and the number of what is wrong. -/
def valG (s : ByteArray) (at_ : Int) : JV × Int × Int × Int :=
  if at_ < 0 ∨ s.size < at_ then (jz, 0, at_, 4) else if (valAt s 32 at_.toNat).2.2 = 0 then ((valAt s 32 at_.toNat).1, (valAt s 32 at_.toNat).2.1, 0, 0) else (jz, 0, (valAt s 32 at_.toNat).2)
def OneRes (E : Nat → Addr) (r : JV × Int × Int × Int) (w : World) (e : Ending) (w' : World) : Prop :=
  ∃ cs v, e = .returned (.tuple #[.agg cs.toArray, .int .i64 r.2.1, v]) ∧ (jd 32).M w' w.heap.size (fun k => w.heap.size ≤ k) r.1 cs ∧ ErrV E w' v r.2.2.1 r.2.2.2 ∧ Below w.heap.size w w'

structure Res4 (n : Nat) (cs : Array Value) (v1 v2 : Value) (w : World) : Prop where
  a : VRow n cs w
  b : Cl (n + 1) v1 3 w
  c : Cl (n + 2) v2 28 w
theorem Res4.kept {n b : Nat} {cs : Array Value} {v1 v2 : Value} {w w' : World} (h : Res4 n cs v1 v2 w) (hg : w.grownBy w' (some b)) (hb : n + 2 < b) : Res4 n cs v1 v2 w' :=
  ⟨h.a.kept hg (by simp; omega), h.b.kept hg (by simp; omega), h.c.kept hg (by simp; omega)⟩
theorem one_start {E : Nat → Addr} (w : World) (s : ByteArray) (i : Nat) (hs : Sents E w) :
    Res4 w.heap.size (leafA 0 ⟨#[]⟩) (.int .i64 0) .nilIface ((((w.alloc (.cells (leafA 0 ⟨#[]⟩) 26)).alloc (.cells #[.int .i64 0] 3)).alloc (.cells #[.nilIface] 28)).alloc (.cells #[.string s, .int .i64 i] 79)) ∧
    Rd (w.heap.size + 3) s i ((((w.alloc (.cells (leafA 0 ⟨#[]⟩) 26)).alloc (.cells #[.int .i64 0] 3)).alloc (.cells #[.nilIface] 28)).alloc (.cells #[.string s, .int .i64 i] 79)) ∧
    Sents E ((((w.alloc (.cells (leafA 0 ⟨#[]⟩) 26)).alloc (.cells #[.int .i64 0] 3)).alloc (.cells #[.nilIface] 28)).alloc (.cells #[.string s, .int .i64 i] 79)) ∧
    Below w.heap.size w ((((w.alloc (.cells (leafA 0 ⟨#[]⟩) 26)).alloc (.cells #[.int .i64 0] 3)).alloc (.cells #[.nilIface] 28)).alloc (.cells #[.string s, .int .i64 i] 79)) ∧
    w.heap.size + 4 = ((((w.alloc (.cells (leafA 0 ⟨#[]⟩) 26)).alloc (.cells #[.int .i64 0] 3)).alloc (.cells #[.nilIface] 28)).alloc (.cells #[.string s, .int .i64 i] 79)).heap.size := by
  have hb : Below w.heap.size w ((((w.alloc (.cells (leafA 0 ⟨#[]⟩) 26)).alloc (.cells #[.int .i64 0] 3)).alloc (.cells #[.nilIface] 28)).alloc (.cells #[.string s, .int .i64 i] 79)) := by go_grown
  refine ⟨⟨?_, ((Cl.new' _ _ _ (by simp)).old _).old _, (Cl.new' _ _ _ (by simp)).old _⟩, ?_, hs.below hb, hb, by simp⟩
  · have h1 := VRow.new w (leafA 0 ⟨#[]⟩)
    exact (((Go.heap_alloc_old _ _ (by simp; omega)).trans (Go.heap_alloc_old _ _ (by simp; omega))).trans (Go.heap_alloc_old _ _ (by simp))).trans h1
  · exact Rd.new' _ s i (by simp)

theorem below_setRow {w W : World} {B g : Nat} (h : Below B w W) (hg : B ≤ g) (ds : Array Value) : Below B w (W.setRow g ds) :=
  ⟨h.os, h.tape, h.output, by have := h.size; simpa [World.setRow] using this, fun k hk => (setRow_other _ _ _ _ (by omega)).trans (h.block k hk)⟩
theorem jz_leaf (n : Nat) (w : World) {B : Nat} {ok : Nat → Prop} : (jd (n + 1)).M w B ok jz [.int .i64 0, .string ⟨#[]⟩, .slice none 0 0, .slice none 0 0] := jdM_leaf n w B ok 0 ⟨#[]⟩

theorem set4_row {n : Nat} {a0 a1 a2 a3 : Value} {w : World} (h : VRow n #[a0, a1, a2, a3] w) (b0 b1 b2 b3 : Value) : (((w.setCell ⟨n, 0, none⟩ b0).setCell ⟨n, 1, none⟩ b1).setCell ⟨n, 2, none⟩ b2).setCell ⟨n, 3, none⟩ b3 = w.setRow n #[b0, b1, b2, b3] := by
  have hh : ((((w.setCell ⟨n, 0, none⟩ b0).setCell ⟨n, 1, none⟩ b1).setCell ⟨n, 2, none⟩ b2).setCell ⟨n, 3, none⟩ b3).heap = (w.setRow n #[b0, b1, b2, b3]).heap := by
    apply Array.ext_getElem?
    intro k
    by_cases hk : k = n
    · subst hk
      unfold VRow at h
      simp [World.setCell, World.setRow, Array.getElem?_modify, h]
    · rw [Below.heap_setCell _ ⟨n, 3, none⟩ _ k (by simpa using hk), Below.heap_setCell _ ⟨n, 2, none⟩ _ k (by simpa using hk), Below.heap_setCell _ ⟨n, 1, none⟩ _ k (by simpa using hk), Below.heap_setCell _ ⟨n, 0, none⟩ _ k (by simpa using hk), setRow_other _ _ _ _ hk]
  exact congrArg (fun h => ({ w with heap := h } : World)) hh

set_option maxHeartbeats 1000000 in
theorem one1_panicking (n : Nat) (a0 a1 a2 a3 : Value) (v1 v2 : Value) (pv : Addr) (older : List PanicEntry) (w : World) (h : Res4 n #[a0, a1, a2, a3] v1 v2 w) :
    CallsD Tryd.prog 50 #[.pointer (some ⟨n, 0, none⟩), .pointer (some ⟨n + 1, 0, none⟩), .pointer (some ⟨n + 2, 0, none⟩)] (.panicking ({ v := .iface 69 (.pointer (some pv)), recovered := false } :: older)) w fun e u' w' =>
      e = .returned (.tuple #[]) ∧ u' = .panicking ({ v := .iface 69 (.pointer (some pv)), recovered := true } :: older) ∧ w' = ((w.setRow n (leafA 0 ⟨#[]⟩)).setCell ⟨n + 1, 0, none⟩ (.int .i64 0)).setCell ⟨n + 2, 0, none⟩ (.iface 69 (.pointer (some pv))) := by
  have b1 : Cl (n + 1) v1 3 (w.setRow n (leafA 0 ⟨#[]⟩)) := (setRow_other _ _ _ _ (by omega)).trans h.b
  have b2 : Cl (n + 2) v2 28 (w.setRow n (leafA 0 ⟨#[]⟩)) := (setRow_other _ _ _ _ (by omega)).trans h.c
  have g0 : w.cell? ⟨n, 0, none⟩ = some a0 := h.a.cell 0 _ rfl
  have r0 := h.a
  have r1 : VRow n #[.int .i64 0, a1, a2, a3] (w.setCell ⟨n, 0, none⟩ (.int .i64 0)) := by unfold VRow at *; simp [World.setCell, Array.getElem?_modify, r0]
  have r2 : VRow n #[.int .i64 0, .string ⟨#[]⟩, a2, a3] ((w.setCell ⟨n, 0, none⟩ (.int .i64 0)).setCell ⟨n, 1, none⟩ (.string ⟨#[]⟩)) := by
    have := r1; unfold VRow at *; generalize w.setCell ⟨n, 0, none⟩ (.int .i64 0) = w1 at *; simp [World.setCell, Array.getElem?_modify, this]
  have r3 : VRow n #[.int .i64 0, .string ⟨#[]⟩, .slice none 0 0, a3] (((w.setCell ⟨n, 0, none⟩ (.int .i64 0)).setCell ⟨n, 1, none⟩ (.string ⟨#[]⟩)).setCell ⟨n, 2, none⟩ (.slice none 0 0)) := r2.set2 _
  have g1 := r1.cell 1 _ rfl
  have g2 := r2.cell 2 _ rfl
  have g3 := r3.cell 3 _ rfl
  have f0 := h.a.frozen 0
  have f1 := h.a.frozen 1
  have f2 := h.a.frozen 2
  have f3 := h.a.frozen 3
  have e4 := set4_row h.a (.int .i64 0) (.string ⟨#[]⟩) (.slice none 0 0) (.slice none 0 0)
  have c2 := b1.cell
  have f4 := b1.frozen
  have c3 := (b2.far (c := n + 1) (o := 0) (by omega) (.int .i64 0)).cell
  have f5 := b2.frozen
  clear r0 r1 r2 r3
  change _ = w.setRow n (leafA 0 ⟨#[]⟩) at e4
  rw [← e4] at c2 c3 f4 f5 ⊢
  clear e4 b1 b2
  refine callsD_of_wpS Tryd.func50 rfl fun c₀ cs hu => ?_
  apply wpS_seq
  apply wpS_region
  simp [wpOpsS, go_sem, recoverD, hu, Tryd.ntmps50, Exit.thenS]
  refine (caught_some pv w).mono ?_
  rintro e w' ⟨rfl, hw⟩
  rw [hw]
  clear hw
  simp [go_sem, eqGuard, Result.andThen]
  apply wpS_seq
  apply wpS_region
  simp [wpOpsS, go_sem, Exit.thenS, eqGuard, Result.andThen]
  refine wpS_cond (t := true) (by simp [Act.eval, Array.replicate]) ?_
  simp only [if_true]
  apply wpS_region
  simp [wpOpsS, go_sem, eqGuard, g0, g1, g2, g3, f0, f1, f2, f3, c2, c3, f4, f5, bodyPostS, results, Tryd.results50, Result.andThen, Array.replicate]

set_option maxHeartbeats 1000000 in
theorem one1_idle (p1 p2 p3 : Addr) (w : World) :
    CallsD Tryd.prog 50 #[.pointer (some p1), .pointer (some p2), .pointer (some p3)] .returning w fun e u' w' => e = .returned (.tuple #[]) ∧ u' = .returning ∧ w' = w := by
  refine callsD_of_wpS Tryd.func50 rfl fun c₀ cs hu => ?_
  apply wpS_seq
  apply wpS_region
  simp [wpOpsS, go_sem, recoverD, hu, Tryd.ntmps50, Exit.thenS]
  refine (caught_none w).mono ?_
  rintro e w' ⟨rfl, hw⟩
  rw [hw]
  clear hw
  simp [go_sem, eqGuard, Result.andThen]
  apply wpS_seq
  apply wpS_region
  simp [wpOpsS, go_sem, Exit.thenS, eqGuard, Result.andThen]
  refine wpS_cond (t := false) (by simp [Act.eval, Array.replicate]) ?_
  simp only [Bool.false_eq_true, if_false]
  refine wpS_of_wp (wp_skip ?_)
  cases c₀
  simp_all [bodyPostS, results, Tryd.results50]

theorem res4_caught {n : Nat} {a0 a1 a2 a3 v1 v2 : Value} {w W : World} {p : Addr} {E : Nat → Addr} {a c : Int} (hn : n = w.heap.size) (h : Res4 n #[a0, a1, a2, a3] v1 v2 W) (ha0 : ∃ k x, a0 = .int k x) (ha1 : ∃ t, a1 = .string t) (hv2 : v2 = .nilIface) (hb : Below w.heap.size w W) (he : ErrV E W (.iface 69 (.pointer (some p))) a c) :
    Res4 n (leafA 0 ⟨#[]⟩) (.int .i64 0) (.iface 69 (.pointer (some p))) (((W.setRow n (leafA 0 ⟨#[]⟩)).setCell ⟨n + 1, 0, none⟩ (.int .i64 0)).setCell ⟨n + 2, 0, none⟩ (.iface 69 (.pointer (some p)))) ∧
    ErrV E (((W.setRow n (leafA 0 ⟨#[]⟩)).setCell ⟨n + 1, 0, none⟩ (.int .i64 0)).setCell ⟨n + 2, 0, none⟩ (.iface 69 (.pointer (some p)))) (.iface 69 (.pointer (some p))) a c ∧
    Below w.heap.size w (((W.setRow n (leafA 0 ⟨#[]⟩)).setCell ⟨n + 1, 0, none⟩ (.int .i64 0)).setCell ⟨n + 2, 0, none⟩ (.iface 69 (.pointer (some p)))) := by
  have b1 : Cl (n + 1) v1 3 (W.setRow n (leafA 0 ⟨#[]⟩)) := (setRow_other _ _ _ _ (by omega)).trans h.b
  have b2 : Cl (n + 2) v2 28 (W.setRow n (leafA 0 ⟨#[]⟩)) := (setRow_other _ _ _ _ (by omega)).trans h.c
  have b0 : VRow n (leafA 0 ⟨#[]⟩) (W.setRow n (leafA 0 ⟨#[]⟩)) := h.a.set
  refine ⟨⟨(b0.far (by omega) _).far (by omega) _, (b1.set _).far (by omega) _, (b2.far (by omega) _).set _⟩, ?_, ?_⟩
  · rcases he with ⟨h0, h1⟩ | ⟨h1, h2, q, h3, h4, h5⟩
    · simp at h1
    · obtain ⟨_, _, rfl⟩ := ha0
      obtain ⟨_, rfl⟩ := ha1
      subst hv2
      refine .inr ⟨h1, h2, q, h3, ?_, ?_⟩
      all_goals
        have hq0 : q ≠ n := by
          rintro rfl
          rw [Lib.cell_of_heap h.a] at h5
          simp at h5
        have hq1 : q ≠ n + 1 := by
          rintro rfl
          rw [Lib.cell_of_heap h.b] at h5
          simp at h5
        have hq2 : q ≠ n + 2 := by
          rintro rfl
          rw [Lib.cell_of_heap h.c] at h5
          simp at h5
        have hh : (((W.setRow n (leafA 0 ⟨#[]⟩)).setCell ⟨n + 1, 0, none⟩ (.int .i64 0)).setCell ⟨n + 2, 0, none⟩ (.iface 69 (.pointer (some p)))).heap[q]? = W.heap[q]? := by
          rw [Below.heap_setCell _ ⟨n + 2, 0, none⟩ _ q (by simpa using hq2), Below.heap_setCell _ ⟨n + 1, 0, none⟩ _ q (by simpa using hq1), setRow_other _ _ _ _ hq0]
      · exact (World.cell?_of_block hh).trans h4
      · exact (World.cell?_of_block hh).trans h5
  · subst hn
    exact ((below_setRow hb (Nat.le_refl _) _).setCell (Nat.le_add_right _ 1) _).setCell (Nat.le_add_right _ 2) _

theorem results_one (tmps : Array Value) (w : World) (n : Nat) (cs : Array Value) (v1 v2 : Value) (H : Res4 n cs v1 v2 w) (hs : cs.size = 4)
    (h4 : tmps.getD 4 undef = .pointer (some ⟨n, 0, none⟩)) (h5 : tmps.getD 5 undef = .pointer (some ⟨n + 1, 0, none⟩)) (h6 : tmps.getD 6 undef = .pointer (some ⟨n + 2, 0, none⟩)) :
    (results Tryd.f17 tmps).run Tryd.prog w = .ok (.tuple #[.agg cs, v1, v2]) w := by
  have g4 : tmps[4]?.getD undef = .pointer (some ⟨n, 0, none⟩) := by simpa using h4
  have g5 : tmps[5]?.getD undef = .pointer (some ⟨n + 1, 0, none⟩) := by simpa using h5
  have g6 : tmps[6]?.getD undef = .pointer (some ⟨n + 2, 0, none⟩) := by simpa using h6
  have l := run_loadVar_row w n 26 26 cs (0, 0) _ H.a Tryd.underlying26 rfl (by rw [hs]; exact info_val)
  have c5 := H.b.cell
  have c6 := H.c.cell
  have l5 : (loadVar 3 ⟨n + 1, 0, none⟩).run Tryd.prog w = .ok v1 w := by simp [go_sem, c5]
  have l6 : (loadVar 28 ⟨n + 2, 0, none⟩).run Tryd.prog w = .ok v2 w := by simp [go_sem, c6]
  simp [results, Tryd.results17, g4, g5, g6, asAddr, l, l5, l6]

set_option maxHeartbeats 2000000 in
set_option maxRecDepth 100000 in
theorem One_out {E : Nat → Addr} (s : ByteArray) (at_ : Int) (w : World) (hl : s.size ≤ 100000) (hs : Sents E w) (h : at_ < 0 ∨ (s.size : Int) < at_) :
    Calls Tryd.prog 17 #[.string s, .int .i64 at_] w (OneRes E (valG s at_) w) := by
  have HA : Hid (valG s at_ = (jz, 0, at_, 4)) := by show _ = _; unfold valG; rw [if_pos h]
  have g4 := hs.c4
  have hlt : 2 < w.heap.size := World.block_lt_of_cell? w _ g4
  have g5 : (((w.alloc (.cells #[.int .i64 0, .string ⟨#[]⟩, .slice none 0 0, .slice none 0 0] 26)).alloc (.cells #[.int .i64 0] 3)).alloc (.cells #[.nilIface] 28)).cell? ⟨2, 0, none⟩ = some (.iface 180 (.pointer (some (E 4)))) :=
    cell_below (by go_grown) g4
  have c0 := Lib.hid (one_start w s 0 hs)
  clear hs
  have c1 : Hid (Res4 w.heap.size (leafA 0 ⟨#[]⟩) (.int .i64 0) (.iface 69 (.pointer (some ⟨w.heap.size + 1 + 1 + 1, 0, none⟩))) ((((w.alloc (.cells #[.int .i64 0, .string ⟨#[]⟩, .slice none 0 0, .slice none 0 0] 26)).alloc (.cells #[.int .i64 0] 3)).alloc (.cells #[.iface 69 (.pointer (some ⟨w.heap.size + 1 + 1 + 1, 0, none⟩))] 28)).alloc (.cells #[.int .i64 at_, .iface 180 (.pointer (some (E 4)))] 71)).drew) := by
    refine ⟨?_, ((Cl.new' _ _ _ (by simp)).old _).old _, (Cl.new' _ _ _ (by simp)).old _⟩
    have h1 := VRow.new w (leafA 0 ⟨#[]⟩)
    exact (((Go.heap_alloc_old _ _ (by simp; omega)).trans (Go.heap_alloc_old _ _ (by simp; omega))).trans (Go.heap_alloc_old _ _ (by simp))).trans h1
  rcases h with h | h
  · go_enter_defers Tryd.func17, Tryd.ntmps17
    go_wp2_with fail
    go_region
    go_wp2_with fail
    refine ⟨_, results_one _ _ w.heap.size _ _ _ c1.out rfl rfl rfl rfl, [_, _, _, _], _, by rw [HA.out]; rfl, by rw [HA.out]; exact jz_leaf 31 _, by rw [HA.out]; exact errV_at _ at_ 4 4 rfl (by omega) (by omega) (by simp), by go_grown⟩
  · have h0 : decide (at_ < 0) = false := by simp; omega
    go_enter_defers Tryd.func17, Tryd.ntmps17
    go_wp2_with fail
    go_region
    go_wp2_with fail
    refine ⟨_, results_one _ _ w.heap.size _ _ _ c1.out rfl rfl rfl rfl, [_, _, _, _], _, by rw [HA.out]; rfl, by rw [HA.out]; exact jz_leaf 31 _, by rw [HA.out]; exact errV_at _ at_ 4 4 rfl (by omega) (by omega) (by simp), by go_grown⟩

set_option maxHeartbeats 2000000 in
set_option maxRecDepth 100000 in
theorem One_bad {E : Nat → Addr} (s : ByteArray) (i : Nat) (w : World) (hl : s.size ≤ 100000) (hs : Sents E w) (hi : i ≤ s.size) (h : (valAt s 32 i).2.2 ≠ 0) :
    Calls Tryd.prog 17 #[.string s, .int .i64 i] w (OneRes E (valG s i) w) := by
  have HA : Hid (valG s i = (jz, 0, (valAt s 32 i).2)) := by show _ = _; unfold valG; rw [if_neg (by omega), Int.toNat_natCast, if_neg h]
  have hmf : ∀ (fn : Fn) (first cap : Array Value) (w : World), (Instr.makeFunc fn first cap).run Tryd.prog w = .ok (.func fn first cap) w := fun _ _ _ _ => rfl
  have H0 := Lib.hid (one_start w s i hs)
  have HH := Lib.hid h
  clear hs h
  go_enter_defers Tryd.func17, Tryd.ntmps17
  go_wp2_with fail
  refine (val_all (E := E) 32 (by omega) (w.heap.size + 3) s i _ 1 (by omega) hl H0.out.2.2.1 H0.out.2.1 hi).mono ?_
  intro e w5 ht
  obtain ⟨p, rfl, hE, HG, HRJ⟩ := (Or.resolve_left ht (fun h => HH.out h.1)).2
  clear ht
  have HV := Lib.hid (H0.out.1.kept HG.out (by omega))
  have HB : Hid (Below w.heap.size w w5) := below_grown_new H0.out.2.2.2.1 HG.out (by omega)
  refine leaves_cons (f := 50) (args := #[.pointer (some ⟨w.heap.size, 0, none⟩), .pointer (some ⟨w.heap.size + 1, 0, none⟩), .pointer (some ⟨w.heap.size + 2, 0, none⟩)]) (by simp) (by simp [go_sem]) ?_
  refine (one1_panicking w.heap.size _ _ _ _ _ _ p [] _ HV.out).mono ?_
  rintro e u' w'' ⟨rfl, rfl, rfl⟩
  have hfin := res4_caught rfl HV.out ⟨_, _, rfl⟩ ⟨_, rfl⟩ rfl HB.out hE.out
  exact ⟨_, results_one _ _ w.heap.size _ _ _ hfin.1 rfl rfl rfl rfl, [_, _, _, _], _, by rw [HA.out]; rfl, by rw [HA.out]; exact jz_leaf 31 _, by rw [HA.out]; exact hfin.2.1, hfin.2.2⟩

set_option maxHeartbeats 2000000 in
set_option maxRecDepth 100000 in
theorem One_good {E : Nat → Addr} (s : ByteArray) (i : Nat) (w : World) (hl : s.size ≤ 100000) (hs : Sents E w) (hi : i ≤ s.size) (h : (valAt s 32 i).2.2 = 0) :
    Calls Tryd.prog 17 #[.string s, .int .i64 i] w (OneRes E (valG s i) w) := by
  have HA : Hid (valG s i = ((valAt s 32 i).1, (valAt s 32 i).2.1, 0, 0)) := by show _ = _; unfold valG; rw [if_neg (by omega), Int.toNat_natCast, if_pos h]
  have hmf : ∀ (fn : Fn) (first cap : Array Value) (w : World), (Instr.makeFunc fn first cap).run Tryd.prog w = .ok (.func fn first cap) w := fun _ _ _ _ => rfl
  have H0 := Lib.hid (one_start w s i hs)
  have HH := Lib.hid h
  obtain ⟨p, hp1, hp2, hp3⟩ := valAt_ends s 32 i h
  have HP : Hid ((valAt s 32 i).2.1.toNat = p ∧ (valAt s 32 i).2.1 = p) := ⟨by rw [hp1]; simp, hp1⟩
  clear hs h hp1
  go_enter_defers Tryd.func17, Tryd.ntmps17
  go_wp2_with fail
  refine (value_ok (val_all (E := E) 32 (by omega)) (w.heap.size + 3) s i _ 1 (by omega) hl H0.out.2.2.1 H0.out.2.1 hi HH.out).mono ?_
  rintro e w5 ⟨A2, c2, A3, c3, ⟨rfl, HR, HG⟩, HM⟩
  rw [HP.out.1] at HR
  have HV := Lib.hid (H0.out.1.kept HG.out (by omega))
  have HB : Hid (Below w.heap.size w w5) := below_grown_new H0.out.2.2.2.1 HG.out (by omega)
  have hv0 : VRow w.heap.size (leafA 0 ⟨#[]⟩) w5 := HV.out.a
  replace HM : Hid ((jd 32).M w5 (w.heap.size + 4) (fun k => w.heap.size + 4 ≤ k) (valAt s 32 i).1 (jcells (valAt s 32 i).1 A2 c2 A3 c3)) := by
    have h := HM.out
    rw [← H0.out.2.2.2.2] at h
    exact h
  generalize (valAt s 32 i).1 = x at *
  go_wp2_with (first | ((with_reducible refine wpl_store_row4 (k := x.kind) (t := x.text) (A2 := A2) (n2 := x.list.length) (c2 := c2) (A3 := A3) (n3 := x.mem.length) (c3 := c3) hv0 ?hx ?hy ?_); (case hx => rfl); (case hy => rfl)))
  have HV6 : Hid (Res4 w.heap.size #[.int .i64 x.kind, .string x.text, .slice A2 x.list.length c2, .slice A3 x.mem.length c3] (.int .i64 0) .nilIface (w5.setRow w.heap.size #[.int .i64 x.kind, .string x.text, .slice A2 x.list.length c2, .slice A3 x.mem.length c3])) := ⟨hv0.set, (setRow_other _ _ _ _ (by omega)).trans HV.out.b, (setRow_other _ _ _ _ (by omega)).trans HV.out.c⟩
  have HR6 : Hid (Rd (w.heap.size + 3) s p (w5.setRow w.heap.size #[.int .i64 x.kind, .string x.text, .slice A2 x.list.length c2, .slice A3 x.mem.length c3])) := HR.out.setRow (by omega) _
  have HB6 : Hid (Below w.heap.size w (w5.setRow w.heap.size #[.int .i64 x.kind, .string x.text, .slice A2 x.list.length c2, .slice A3 x.mem.length c3])) := below_setRow HB.out (Nat.le_refl _) _
  have HM6 : Hid ((jd 32).M (w5.setRow w.heap.size #[.int .i64 x.kind, .string x.text, .slice A2 x.list.length c2, .slice A3 x.mem.length c3]) (w.heap.size + 4) (fun k => w.heap.size + 4 ≤ k) x (jcells x A2 c2 A3 c3)) := (jd 32).M_move (fun k hk => setRow_other _ _ _ _ (by omega)) HM.out
  generalize w5.setRow w.heap.size #[.int .i64 x.kind, .string x.text, .slice A2 x.list.length c2, .slice A3 x.mem.length c3] = w6 at *
  clear HV HR HB HM hv0 H0 HG
  have q0 := HV6.out.a.cell 0 _ rfl
  have q1 := HV6.out.a.cell 1 _ rfl
  have q2 := HV6.out.a.cell 2 _ rfl
  have q3 := HV6.out.a.cell 3 _ rfl
  have q7 := HR6.out.c1
  have e4 := Lib.hid (set4_row HV6.out.a (.int .i64 x.kind) (.string x.text) (.slice A2 x.list.length c2) (.slice A3 x.mem.length c3))
  have f0 := HV6.out.a.frozen 0
  have f1 := HV6.out.a.frozen 1
  have f2 := HV6.out.a.frozen 2
  have f3 := HV6.out.a.frozen 3
  have b1 := HV6.out.b
  have b2 := HV6.out.c
  have g1 := ((((b1.far (c := w.heap.size) (o := 0) (by omega) (.int .i64 x.kind)).far (c := w.heap.size) (o := 1) (by omega) (.string x.text)).far (c := w.heap.size) (o := 2) (by omega) (.slice A2 x.list.length c2)).far (c := w.heap.size) (o := 3) (by omega) (.slice A3 x.mem.length c3))
  have g2 := (((((b2.far (c := w.heap.size) (o := 0) (by omega) (.int .i64 x.kind)).far (c := w.heap.size) (o := 1) (by omega) (.string x.text)).far (c := w.heap.size) (o := 2) (by omega) (.slice A2 x.list.length c2)).far (c := w.heap.size) (o := 3) (by omega) (.slice A3 x.mem.length c3))).far (c := w.heap.size + 1) (o := 0) (by omega) (.int .i64 p)
  have h1 := g1.cell
  have h2 := g2.cell
  have k1 := b1.frozen
  have k2 := b2.frozen
  have s4 : VRow w.heap.size #[.int .i64 x.kind, .string x.text, .slice A2 x.list.length c2, .slice A3 x.mem.length c3] ((((w6.setCell ⟨w.heap.size, 0, none⟩ (.int .i64 x.kind)).setCell ⟨w.heap.size, 1, none⟩ (.string x.text)).setCell ⟨w.heap.size, 2, none⟩ (.slice A2 x.list.length c2)).setCell ⟨w.heap.size, 3, none⟩ (.slice A3 x.mem.length c3)) := by
    rw [e4.out]; exact HV6.out.a.set
  have s0 := s4.cell 0 _ rfl
  have s1 := s4.cell 1 _ rfl
  have s2 := s4.cell 2 _ rfl
  have s3 := s4.cell 3 _ rfl
  have s5 := (s4.far (c := w.heap.size + 1) (o := 0) (by omega) (.int .i64 p)).far (c := w.heap.size + 1 + 1) (o := 0) (by omega) .nilIface
  have t0 := s5.cell 0 _ rfl
  have t1 := s5.cell 1 _ rfl
  have t2 := s5.cell 2 _ rfl
  have t3 := s5.cell 3 _ rfl
  clear g1 g2 b1 b2 s4 s5
  go_region_held3 (fun W => W.cell? ⟨w.heap.size, 0, none⟩ = some (.int .i64 x.kind) ∧ W.cell? ⟨w.heap.size, 1, none⟩ = some (.string x.text) ∧ W.cell? ⟨w.heap.size, 2, none⟩ = some (.slice A2 x.list.length c2) ∧ W.cell? ⟨w.heap.size, 3, none⟩ = some (.slice A3 x.mem.length c3) ∧ W.cell? ⟨w.heap.size + 3, 1, none⟩ = some (.int .i64 p)) (go_keep) (fail)
  go_wp2_with fail
  rw [e4.out]
  have HF : Hid (Res4 w.heap.size #[.int .i64 x.kind, .string x.text, .slice A2 x.list.length c2, .slice A3 x.mem.length c3] (.int .i64 p) .nilIface ((((w6.setRow w.heap.size #[.int .i64 x.kind, .string x.text, .slice A2 x.list.length c2, .slice A3 x.mem.length c3]).setCell ⟨w.heap.size + 1, 0, none⟩ (.int .i64 p)).setCell ⟨w.heap.size + 1 + 1, 0, none⟩ .nilIface).drew)) := by
    have z1 : Cl (w.heap.size + 1) (.int .i64 0) 3 (w6.setRow w.heap.size #[.int .i64 x.kind, .string x.text, .slice A2 x.list.length c2, .slice A3 x.mem.length c3]) := (setRow_other _ _ _ _ (by omega)).trans HV6.out.b
    have z2 : Cl (w.heap.size + 2) .nilIface 28 (w6.setRow w.heap.size #[.int .i64 x.kind, .string x.text, .slice A2 x.list.length c2, .slice A3 x.mem.length c3]) := (setRow_other _ _ _ _ (by omega)).trans HV6.out.c
    have z0 : VRow w.heap.size #[.int .i64 x.kind, .string x.text, .slice A2 x.list.length c2, .slice A3 x.mem.length c3] (w6.setRow w.heap.size #[.int .i64 x.kind, .string x.text, .slice A2 x.list.length c2, .slice A3 x.mem.length c3]) := HV6.out.a.set
    exact ⟨(z0.far (by omega) _).far (by omega) _, (z1.set _).far (by omega) _, (z2.far (by omega) _).set _⟩
  have HBF : Hid (Below w.heap.size w ((((w6.setRow w.heap.size #[.int .i64 x.kind, .string x.text, .slice A2 x.list.length c2, .slice A3 x.mem.length c3]).setCell ⟨w.heap.size + 1, 0, none⟩ (.int .i64 p)).setCell ⟨w.heap.size + 1 + 1, 0, none⟩ .nilIface).drew)) := (((below_setRow HB6.out (Nat.le_refl _) _).setCell (Nat.le_add_right _ 1) _).setCell (Nat.le_add_right _ 2) _).drew
  have HMF : Hid ((jd 32).M ((((w6.setRow w.heap.size #[.int .i64 x.kind, .string x.text, .slice A2 x.list.length c2, .slice A3 x.mem.length c3]).setCell ⟨w.heap.size + 1, 0, none⟩ (.int .i64 p)).setCell ⟨w.heap.size + 1 + 1, 0, none⟩ .nilIface).drew) w.heap.size (fun k => w.heap.size ≤ k) x (jcells x A2 c2 A3 c3)) :=
    (jd 32).M_mono (fun k hk => by omega) ((jd 32).M_lower (base := w.heap.size + 4) (by omega) ((jd 32).M_move (w := w6) (ok := fun k => w.heap.size + 4 ≤ k) (fun k hk => by
      show (((w6.setRow w.heap.size #[.int .i64 x.kind, .string x.text, .slice A2 x.list.length c2, .slice A3 x.mem.length c3]).setCell ⟨w.heap.size + 1, 0, none⟩ (.int .i64 p)).setCell ⟨w.heap.size + 1 + 1, 0, none⟩ .nilIface).heap[k]? = w6.heap[k]?
      rw [Below.heap_setCell _ ⟨w.heap.size + 1 + 1, 0, none⟩ _ k (by show k ≠ w.heap.size + 1 + 1; omega), Below.heap_setCell _ ⟨w.heap.size + 1, 0, none⟩ _ k (by show k ≠ w.heap.size + 1; omega), setRow_other _ _ _ _ (by omega)]) HM6.out))
  refine leaves_cons (f := 50) (args := #[.pointer (some ⟨w.heap.size, 0, none⟩), .pointer (some ⟨w.heap.size + 1, 0, none⟩), .pointer (some ⟨w.heap.size + 2, 0, none⟩)]) (by simp) (by simp [go_sem]) ?_
  refine (one1_idle ⟨w.heap.size, 0, none⟩ ⟨w.heap.size + 1, 0, none⟩ ⟨w.heap.size + 2, 0, none⟩ _).mono ?_
  rintro e u' w'' ⟨rfl, rfl, rfl⟩
  exact ⟨_, results_one _ _ w.heap.size _ _ _ HF.out rfl rfl rfl rfl, _, _, by rw [HA.out, HP.out.2], by rw [HA.out]; exact HMF.out, by rw [HA.out]; exact .inl ⟨rfl, rfl⟩, HBF.out⟩

theorem One_any {E : Nat → Addr} (s : ByteArray) (at_ : Int) (w : World) (hl : s.size ≤ 100000) (hs : Sents E w) :
    Calls Tryd.prog 17 #[.string s, .int .i64 at_] w (OneRes E (valG s at_) w) := by
  by_cases h : at_ < 0 ∨ (s.size : Int) < at_
  · exact One_out s at_ w hl hs h
  · obtain ⟨i, rfl⟩ : ∃ i : Nat, at_ = i := ⟨at_.toNat, by omega⟩
    by_cases h0 : (valAt s 32 i).2.2 = 0
    · exact One_good s i w hl hs (by omega) h0
    · exact One_bad s i w hl hs (by omega) h0
end

section
open Go.RowKit Go.PlainAid
open Go.Proofs.YtpdpgppaoipnlaaDoorW.PrintWords hiding bt
open Go.Proofs.YtpdpgppaoipnlaaDoorW.PrintMore

def ReadRes (E : Nat → Addr) (r : JV × Int × Int) (w : World) (e : Ending) (w' : World) : Prop :=
  ∃ cs v, e = .returned (.tuple #[.agg cs.toArray, v]) ∧ (jd 32).M w' w.heap.size (fun k => w.heap.size ≤ k) (if r.2.2 = 0 then r.1 else jz) cs ∧ ErrV E w' v (if r.2.2 = 0 then 0 else r.2.1) r.2.2 ∧ Below w.heap.size w w'
/-- What stands behind a value in a text: nothing, or a fault. -/
def endG (s : ByteArray) (r : JV × Int × Int) : JV × Int × Int := if r.2.2 ≠ 0 then r else if spc s r.2.1.toNat < s.size then (jz, spc s r.2.1.toNat, 1) else (r.1, r.2.1, 0)
theorem readV_eq (s : ByteArray) (hl : s.size ≤ 100000) : readV s = endG s (valAt s 32 (spc s 0)) := by
  unfold readV endG
  rw [if_neg (by omega)]

theorem ErrV.setRow {E : Nat → Addr} {w : World} {v : Value} {a c : Int} (h : ErrV E w v a c) {g : Nat} {cs : Array Value} (hg : VRow g cs w) (h0 : ∃ x ds, cs = #[.int .i64 x, .string ds, .slice none 0 0, .slice none 0 0]) (ds : Array Value) : ErrV E (w.setRow g ds) v a c := by
  rcases h with h | ⟨h1, h2, b, h3, h4, h5⟩
  · exact .inl h
  · obtain ⟨x, d, rfl⟩ := h0
    have hne : b ≠ g := by
      rintro rfl
      rw [Lib.cell_of_heap hg] at h5
      simp at h5
    exact .inr ⟨h1, h2, b, h3, (World.cell?_of_block (setRow_other _ _ _ _ hne)).trans h4, (World.cell?_of_block (setRow_other _ _ _ _ hne)).trans h5⟩
theorem VRow.set0 {b : Nat} {a0 a1 a2 a3 : Value} {w : World} (h : VRow b #[a0, a1, a2, a3] w) (v : Value) : VRow b #[v, a1, a2, a3] (w.setCell ⟨b, 0, none⟩ v) := by
  unfold VRow at *
  simp [World.setCell, Array.getElem?_modify, h]
theorem VRow.set1 {b : Nat} {a0 a1 a2 a3 : Value} {w : World} (h : VRow b #[a0, a1, a2, a3] w) (v : Value) : VRow b #[a0, v, a2, a3] (w.setCell ⟨b, 1, none⟩ v) := by
  unfold VRow at *
  simp [World.setCell, Array.getElem?_modify, h]
theorem valG_in (s : ByteArray) (n : Nat) (hn : n ≤ s.size) : valG s n = if (valAt s 32 n).2.2 = 0 then ((valAt s 32 n).1, (valAt s 32 n).2.1, 0, 0) else (jz, 0, (valAt s 32 n).2) := by
  unfold valG
  rw [if_neg (by omega), Int.toNat_natCast]
theorem results_read (tmps : Array Value) (w : World) (n : Nat) (cs : Array Value) (H : VRow n cs w) (hs : cs.size = 4) (v : Value) (h2 : tmps.getD 2 undef = .pointer (some ⟨n, 0, none⟩)) (h3 : tmps.getD 3 undef = v) :
    (results Tryd.f13 tmps).run Tryd.prog w = .ok (.tuple #[.agg cs, v]) w := by
  subst h3
  exact results_ct rfl tmps w n 26 cs (0, 0) _ h2 H Tryd.underlying26 rfl (by rw [hs]; exact info_val)

set_option maxHeartbeats 2000000 in
set_option maxRecDepth 100000 in
theorem Read_bad {E : Nat → Addr} (s : ByteArray) (w : World) (hl : s.size ≤ 100000) (hs : Sents E w) (h0 : (valAt s 32 (spc s 0)).2.2 ≠ 0) :
    Calls Tryd.prog 13 #[.string s] w (ReadRes E (readV s) w) := by
  have HA : Hid (readV s = valAt s 32 (spc s 0)) := by show _ = _; rw [readV_eq s hl]; unfold endG; rw [if_pos h0]
  have hsp := spc_le s 0 (by omega)
  have HG : Hid (valG s ((spc s 0 : Nat) : Int) = (jz, 0, (valAt s 32 (spc s 0)).2)) := by show _ = _; rw [valG_in s _ hsp.2, if_neg h0]
  have HS1 : Hid (spaceAt s 0 = ((spc s 0 : Nat) : Int)) := by show _ = _; unfold spaceAt; rw [if_neg (by omega)]; rfl
  have HB0 : Hid (Below w.heap.size w (w.alloc (.cells (leafA 0 ⟨#[]⟩) 26))) := (Below.refl _ _).alloc (Nat.le_refl _) _
  have HV0 : Hid (VRow w.heap.size (leafA 0 ⟨#[]⟩) (w.alloc (.cells (leafA 0 ⟨#[]⟩) 26))) := VRow.new w _
  have HS := Lib.hid hs
  have HH := Lib.hid h0
  clear hs h0
  go_enter Tryd.func13, Tryd.ntmps13
  go_wp2_with fail
  refine (Space_any s 0 _ hl).mono ?_
  rintro e w1 ⟨rfl, hb1⟩
  have HB1 := Lib.hid (below_then HB0.out (by simp) hb1)
  have HV1 : Hid (VRow w.heap.size (leafA 0 ⟨#[]⟩) w1) := (hb1.block _ (by simp)).trans HV0.out
  rw [HS1.out]
  clear hb1 HB0 HV0
  go_wp2_with fail
  refine (One_any (E := E) s _ _ hl (HS.out.below HB1.out)).mono ?_
  rintro e w2 ⟨cs, v, rfl, hk, he, hb⟩
  rw [HG.out] at hk he ⊢
  obtain ⟨_, _, q, rfl, he4, he5⟩ := Or.resolve_left he (fun h => HH.out h.1)
  obtain ⟨A2, c2, A3, c3, rfl⟩ := jdM_cells hk
  have HB2 := Lib.hid (HB1.out.trans (hb.mono HB1.out.size))
  have HV2 : Hid (VRow w.heap.size (leafA 0 ⟨#[]⟩) w2) := (hb.block _ HV1.out.lt).trans HV1.out
  have HE := Lib.hid he
  clear hk he he4 he5 hb HB1 HV1
  have HN : Hid (VRow w2.heap.size (leafA 0 ⟨#[]⟩) (w2.alloc (.cells (leafA 0 ⟨#[]⟩) 26))) := VRow.new w2 _
  have HO : Hid (VRow w.heap.size (leafA 0 ⟨#[]⟩) ((w2.alloc (.cells (leafA 0 ⟨#[]⟩) 26)).setRow w2.heap.size #[.int .i64 jz.kind, .string jz.text, .slice A2 jz.list.length c2, .slice A3 jz.mem.length c3])) :=
    (setRow_other _ _ _ _ (by have := HV2.out.lt; omega)).trans ((Go.heap_alloc_old _ _ HV2.out.lt).trans HV2.out)
  have HBF : Hid (Below w.heap.size w (((w2.alloc (.cells (leafA 0 ⟨#[]⟩) 26)).setRow w2.heap.size #[.int .i64 jz.kind, .string jz.text, .slice A2 jz.list.length c2, .slice A3 jz.mem.length c3]).setRow w.heap.size (leafA 0 ⟨#[]⟩))) :=
    below_setRow (below_setRow (HB2.out.alloc HB2.out.size _) HB2.out.size _) (Nat.le_refl _) _
  have HEF : Hid (ErrV E (((w2.alloc (.cells (leafA 0 ⟨#[]⟩) 26)).setRow w2.heap.size #[.int .i64 jz.kind, .string jz.text, .slice A2 jz.list.length c2, .slice A3 jz.mem.length c3]).setRow w.heap.size (leafA 0 ⟨#[]⟩)) (.iface 69 (.pointer (some ⟨q, 0, none⟩))) (valAt s 32 (spc s 0)).2.1 (valAt s 32 (spc s 0)).2.2) := by
    refine ErrV.setRow (ErrV.setRow (HE.out.below ((Below.refl _ _).alloc (Nat.le_refl _) _)) HN.out ⟨_, _, rfl⟩ _) HO.out ⟨_, _, rfl⟩ _
  go_wp2_with (first | ((with_reducible refine wpl_store_row4 (k := jz.kind) (t := jz.text) (A2 := A2) (n2 := jz.list.length) (c2 := c2) (A3 := A3) (n3 := jz.mem.length) (c3 := c3) HN.out ?hx ?hy ?_); (case hx => rfl); (case hy => rfl)) | ((with_reducible refine wpl_store_leaf (k := 0) (t := ⟨#[]⟩) HO.out ?hx ?hy ?_); (case hx => rfl); (case hy => rfl)))
  (try simp only [Exit.inBlock, Exit.then])
  refine bodyPost_ret (v := .tuple #[.agg (leafA 0 ⟨#[]⟩), .iface 69 (.pointer (some ⟨q, 0, none⟩))]) ?_ rfl ?_
  · exact results_read _ _ w.heap.size _ HO.out.set rfl _ rfl rfl
  · rw [HA.out]
    refine ⟨[_, _, _, _], _, rfl, by rw [if_neg HH.out]; exact jz_leaf 31 _, by rw [if_neg HH.out]; exact HEF.out, HBF.out⟩

set_option maxHeartbeats 2000000 in
set_option maxRecDepth 100000 in
theorem Read_good {E : Nat → Addr} (s : ByteArray) (w : World) (hl : s.size ≤ 100000) (hs : Sents E w) (h0 : (valAt s 32 (spc s 0)).2.2 = 0) :
    Calls Tryd.prog 13 #[.string s] w (ReadRes E (readV s) w) := by
  have hsp := spc_le s 0 (by omega)
  obtain ⟨p, hp1, hp2, hp3⟩ := valAt_ends s 32 _ h0
  have hq := spc_le s p (by omega)
  have HA : Hid (readV s = if spc s p < s.size then (jz, (spc s p : Int), 1) else ((valAt s 32 (spc s 0)).1, (p : Int), 0)) := by
    show _ = _; rw [readV_eq s hl]; unfold endG; rw [if_neg (by omega), hp1, Int.toNat_natCast]
  have HG : Hid (valG s ((spc s 0 : Nat) : Int) = ((valAt s 32 (spc s 0)).1, (p : Int), 0, 0)) := by show _ = _; rw [valG_in s _ hsp.2, if_pos h0, hp1]
  have HS1 : Hid (spaceAt s 0 = ((spc s 0 : Nat) : Int)) := by show _ = _; unfold spaceAt; rw [if_neg (by omega)]; rfl
  have HS2 : Hid (spaceAt s p = ((spc s p : Nat) : Int)) := by show _ = _; unfold spaceAt; rw [if_neg (by omega), Int.toNat_natCast]
  have HB0 : Hid (Below w.heap.size w (w.alloc (.cells (leafA 0 ⟨#[]⟩) 26))) := (Below.refl _ _).alloc (Nat.le_refl _) _
  have HV0 : Hid (VRow w.heap.size (leafA 0 ⟨#[]⟩) (w.alloc (.cells (leafA 0 ⟨#[]⟩) 26))) := VRow.new w _
  have HS := Lib.hid hs
  clear hs h0 hp1
  go_enter Tryd.func13, Tryd.ntmps13
  go_wp2_with fail
  refine (Space_any s 0 _ hl).mono ?_
  rintro e w1 ⟨rfl, hb1⟩
  have HB1 := Lib.hid (below_then HB0.out (by simp) hb1)
  have HV1 : Hid (VRow w.heap.size (leafA 0 ⟨#[]⟩) w1) := (hb1.block _ (by simp)).trans HV0.out
  rw [HS1.out]
  clear hb1 HB0 HV0
  go_wp2_with fail
  refine (One_any (E := E) s _ _ hl (HS.out.below HB1.out)).mono ?_
  rintro e w2 ⟨cs, v, rfl, hk, he, hb⟩
  rw [HG.out] at hk he ⊢
  obtain ⟨_, rfl⟩ := Or.resolve_right he (fun h => absurd h.1 (by show ¬ (1 ≤ (0 : Int)); omega))
  obtain ⟨A2, c2, A3, c3, rfl⟩ := jdM_cells hk
  have HB2 := Lib.hid (HB1.out.trans (hb.mono HB1.out.size))
  have HV2 : Hid (VRow w.heap.size (leafA 0 ⟨#[]⟩) w2) := (hb.block _ HV1.out.lt).trans HV1.out
  have HK := Lib.hid hk
  have HLT := HV1.out.lt
  have HLE := hb.size
  clear hk he hb HB1 HV1
  generalize (valAt s 32 (spc s 0)).1 = x at *
  have HN : Hid (VRow w2.heap.size (leafA 0 ⟨#[]⟩) (w2.alloc (.cells (leafA 0 ⟨#[]⟩) 26))) := VRow.new w2 _
  go_wp2_with (first | ((with_reducible refine wpl_store_row4 (k := x.kind) (t := x.text) (A2 := A2) (n2 := x.list.length) (c2 := c2) (A3 := A3) (n3 := x.mem.length) (c3 := c3) HN.out ?hx ?hy ?_); (case hx => rfl); (case hy => rfl)))
  have HB3 : Hid (Below w2.heap.size w2 ((w2.alloc (.cells (leafA 0 ⟨#[]⟩) 26)).setRow w2.heap.size #[.int .i64 x.kind, .string x.text, .slice A2 x.list.length c2, .slice A3 x.mem.length c3])) := below_setRow ((Below.refl _ _).alloc (Nat.le_refl _) _) (Nat.le_refl _) _
  have HN3 : Hid (VRow w2.heap.size #[.int .i64 x.kind, .string x.text, .slice A2 x.list.length c2, .slice A3 x.mem.length c3] ((w2.alloc (.cells (leafA 0 ⟨#[]⟩) 26)).setRow w2.heap.size #[.int .i64 x.kind, .string x.text, .slice A2 x.list.length c2, .slice A3 x.mem.length c3])) := HN.out.set
  change Calls _ _ _ ((w2.alloc (.cells (leafA 0 ⟨#[]⟩) 26)).setRow w2.heap.size #[.int .i64 x.kind, .string x.text, .slice A2 x.list.length c2, .slice A3 x.mem.length c3]) _
  generalize (w2.alloc (.cells (leafA 0 ⟨#[]⟩) 26)).setRow w2.heap.size #[.int .i64 x.kind, .string x.text, .slice A2 x.list.length c2, .slice A3 x.mem.length c3] = w3 at *
  refine (Space_any s p _ hl).mono ?_
  rintro e w4 ⟨rfl, hb4⟩
  have HB4 : Hid (Below w2.heap.size w2 w4) := below_then HB3.out HB3.out.size hb4
  have HN4 : Hid (VRow w2.heap.size #[.int .i64 x.kind, .string x.text, .slice A2 x.list.length c2, .slice A3 x.mem.length c3] w4) := (hb4.block _ HN3.out.lt).trans HN3.out
  have HV4 : Hid (VRow w.heap.size (leafA 0 ⟨#[]⟩) w4) := (HB4.out.block _ HV2.out.lt).trans HV2.out
  have HB5 := Lib.hid (HB2.out.trans (HB4.out.mono HB2.out.size))
  have HK4 : Hid ((jd 32).M w4 w1.heap.size (fun k => w1.heap.size ≤ k) x (jcells x A2 c2 A3 c3)) := (jd 32).M_mono (fun k hk => hk.1) ((jd 32).M_move (fun k hk => HB4.out.block k hk.2.2.1) ((jd 32).M_bound HK.out))
  rw [HS2.out]
  clear hb4 HB3 HN3 HN HB2 HV2 HK HB4
  by_cases hlt : spc s p < s.size
  · have HA2 : Hid (readV s = (jz, (spc s p : Int), 1)) := by show _ = _; rw [HA.out, if_pos hlt]
    generalize spc s p = q at *
    go_wp2_with fail
    have g1 := (HS.out.below HB5.out).c1
    have r0 : ∀ o, VRow w.heap.size #[.int .i64 0, .string ⟨#[]⟩, .slice none 0 0, .slice none 0 0] (w4.alloc o) := fun o => (Go.heap_alloc_old _ _ HV4.out.lt).trans HV4.out
    have r1 : ∀ o, VRow w.heap.size #[.int .i64 0, .string ⟨#[]⟩, .slice none 0 0, .slice none 0 0] ((w4.alloc o).setCell ⟨w.heap.size, 0, none⟩ (.int .i64 0)) := fun o => (r0 o).set0 _
    have r2 : ∀ o, VRow w.heap.size #[.int .i64 0, .string ⟨#[]⟩, .slice none 0 0, .slice none 0 0] (((w4.alloc o).setCell ⟨w.heap.size, 0, none⟩ (.int .i64 0)).setCell ⟨w.heap.size, 1, none⟩ (.string ⟨#[]⟩)) := fun o => (r1 o).set1 _
    have r3 : ∀ o, VRow w.heap.size #[.int .i64 0, .string ⟨#[]⟩, .slice none 0 0, .slice none 0 0] ((((w4.alloc o).setCell ⟨w.heap.size, 0, none⟩ (.int .i64 0)).setCell ⟨w.heap.size, 1, none⟩ (.string ⟨#[]⟩)).setCell ⟨w.heap.size, 2, none⟩ (.slice none 0 0)) := fun o => (r2 o).set2 _
    have z0 := fun o => (r0 o).cell 0 _ rfl
    have z1 := fun o => (r1 o).cell 1 _ rfl
    have z2 := fun o => (r2 o).cell 2 _ rfl
    have z3 := fun o => (r3 o).cell 3 _ rfl
    have f0 := fun o => (r0 o).frozen 0
    have f1 := fun o => (r0 o).frozen 1
    have f2 := fun o => (r0 o).frozen 2
    have f3 := fun o => (r0 o).frozen 3
    have y0 : VRow w.heap.size #[.int .i64 0, .string ⟨#[]⟩, .slice none 0 0, .slice none 0 0] w4 := HV4.out
    have y1 := y0.set0 (.int .i64 0)
    have y2 := y1.set1 (.string ⟨#[]⟩)
    have y3 := y2.set2 (.slice none 0 0)
    have x0 := y0.cell 0 _ rfl
    have x1 := y1.cell 1 _ rfl
    have x2 := y2.cell 2 _ rfl
    have x3 := y3.cell 3 _ rfl
    have e0 := y0.frozen 0
    have e1 := y0.frozen 1
    have e2 := y0.frozen 2
    have e3 := y0.frozen 3
    have R0 := Lib.hid r0
    have hgn : 1 < w.heap.size := World.block_lt_of_cell? w _ HS.out.c1
    have gA : ∀ o, (((((w4.alloc o).setCell ⟨w.heap.size, 0, none⟩ (.int .i64 0)).setCell ⟨w.heap.size, 1, none⟩ (.string ⟨#[]⟩)).setCell ⟨w.heap.size, 2, none⟩ (.slice none 0 0)).setCell ⟨w.heap.size, 3, none⟩ (.slice none 0 0)).cell? ⟨1, 0, none⟩ = some (.iface 180 (.pointer (some (E 1)))) := fun o => by
      rw [set4_row (r0 o)]
      exact (World.cell?_of_block (setRow_other _ _ _ _ (Nat.ne_of_lt hgn))).trans ((World.cell?_alloc_lt w4 o ⟨1, 0, none⟩ (World.block_lt_of_cell? w4 _ g1)).trans g1)
    have gB : ((((w4.setCell ⟨w.heap.size, 0, none⟩ (.int .i64 0)).setCell ⟨w.heap.size, 1, none⟩ (.string ⟨#[]⟩)).setCell ⟨w.heap.size, 2, none⟩ (.slice none 0 0)).setCell ⟨w.heap.size, 3, none⟩ (.slice none 0 0)).cell? ⟨1, 0, none⟩ = some (.iface 180 (.pointer (some (E 1)))) := by
      rw [set4_row y0]
      exact (World.cell?_of_block (setRow_other _ _ _ _ (Nat.ne_of_lt hgn))).trans g1
    clear r0 r1 r2 r3 y0 y1 y2 y3
    go_region_held3 (fun W => W.cell? ⟨1, 0, none⟩ = some (.iface 180 (.pointer (some (E 1))))) (go_keep) (fail)
    all_goals go_wp2_with fail
    · rw [set4_row (R0.out _)]
      refine bodyPost_ret (v := .tuple #[.agg (leafA 0 ⟨#[]⟩), .iface 69 (.pointer (some ⟨w4.heap.size, 0, none⟩))]) ?_ rfl ?_
      · refine results_read _ _ w.heap.size (leafA 0 ⟨#[]⟩) ?_ rfl _ rfl rfl
        exact VRow.set (R0.out _)
      · rw [HA2.out]
        refine ⟨[_, _, _, _], _, rfl, jz_leaf 31 _, ?_, (below_setRow (HB5.out.alloc HB5.out.size _) (Nat.le_refl _) _).drew⟩
        exact (errV_at (E := E) w4 (q : Int) 1 1 rfl (by omega) (by omega) rfl).setRow (R0.out _) ⟨_, _, rfl⟩ _
    · rw [set4_row HV4.out]
      refine bodyPost_ret (v := .tuple #[.agg (leafA 0 ⟨#[]⟩), .iface 69 (.pointer (some ⟨w4.heap.size, 0, none⟩))]) ?_ rfl ?_
      · refine results_read _ _ w.heap.size (leafA 0 ⟨#[]⟩) ?_ rfl _ rfl rfl
        exact (Go.heap_alloc_old _ _ (VRow.lt (HV4.out.set (ds := leafA 0 ⟨#[]⟩)))).trans HV4.out.set
      · rw [HA2.out]
        refine ⟨[_, _, _, _], _, rfl, jz_leaf 31 _, ?_, ((below_setRow HB5.out (Nat.le_refl _) _).alloc (below_setRow HB5.out (Nat.le_refl _) _).size _).drew⟩
        exact errV_at (E := E) (w4.setRow w.heap.size _) (q : Int) 1 1 rfl (by omega) (by omega) (by simp [World.setRow])
  · have HA2 : Hid (readV s = (x, (p : Int), 0)) := by show _ = _; rw [HA.out, if_neg hlt]
    generalize spc s p = q at *
    go_wp2_with (first | ((with_reducible refine wpl_load_arr HN4.out ?hx ?_); (case hx => rfl)) | ((with_reducible refine wpl_store_row4 (k := x.kind) (t := x.text) (A2 := A2) (n2 := x.list.length) (c2 := c2) (A3 := A3) (n3 := x.mem.length) (c3 := c3) HV4.out ?hx ?hy ?_); (case hx => rfl); (case hy => rfl)))
    (try simp only [Exit.inBlock, Exit.then])
    refine bodyPost_ret (v := .tuple #[.agg #[.int .i64 x.kind, .string x.text, .slice A2 x.list.length c2, .slice A3 x.mem.length c3], .nilIface]) ?_ rfl ?_
    · exact results_read _ _ w.heap.size _ HV4.out.set rfl _ rfl rfl
    · rw [HA2.out]
      refine ⟨_, _, rfl, ?_, .inl ⟨rfl, rfl⟩, below_setRow HB5.out (Nat.le_refl _) _⟩
      exact (jd 32).M_mono (fun k hk => by omega) ((jd 32).M_lower (base := w1.heap.size) (by omega) ((jd 32).M_move (fun k hk => setRow_other _ _ _ _ (by omega)) HK4.out))

theorem Read_any {E : Nat → Addr} (s : ByteArray) (w : World) (hl : s.size ≤ 100000) (hs : Sents E w) :
    Calls Tryd.prog 13 #[.string s] w (ReadRes E (readV s) w) := by
  by_cases h0 : (valAt s 32 (spc s 0)).2.2 = 0
  · exact Read_good s w hl hs h0
  · exact Read_bad s w hl hs h0
end
end Go.Proofs.YtpdpgppaoipnlaaDoor

