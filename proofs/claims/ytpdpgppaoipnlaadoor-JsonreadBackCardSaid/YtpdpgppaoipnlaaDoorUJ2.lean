/- What the claim uses of the text J2. -/
import Derived.Test.YtpdpgppaoipnlaaDoorUJ1
import Derived.Laws.Tables
import Derived.Laws.ResultCell
import Derived.Test.YtpdpgppaoipnlaaDoorUUtfX
set_option linter.unusedVariables false
set_option linter.unusedSimpArgs false
namespace Go.Proofs.YtpdpgppaoipnlaaDoor
section
open Go.RowKit Go.PlainAid

/-- The variables of low's own: the reader's address, the result, the place. -/
structure LowV (n b i : Nat) (w : World) : Prop where
  d : w.cell? ⟨n, 0, none⟩ = some (.pointer (some ⟨b, 0, none⟩))
  r : ∃ x, w.cell? ⟨n + 1, 0, none⟩ = some (.int .i32 x)
  f : w.frozen? ⟨n + 1, 0, none⟩ = false
  p : w.cell? ⟨n + 2, 0, none⟩ = some (.int .i64 i)
theorem LowV.grown {n b i : Nat} {w w' : World} (h : LowV n b i w) (hg : w.grownBy w' (some b)) (hb : b < n) : LowV n b i w' := by
  obtain ⟨x, hx⟩ := h.r
  have hlt : n + 1 < w.heap.size := World.block_lt_of_cell? w _ hx
  exact ⟨hg.cell h.d (by simp; omega), ⟨x, hg.cell hx (by simp; omega)⟩, by rw [World.frozen?_of_block (hg.block (n + 1) hlt (by simp; omega))]; exact h.f, hg.cell h.p (by simp; omega)⟩

def LowIs (b : Nat) (s : ByteArray) (i : Nat) (w : World) (e : Ending) (w' : World) : Prop := Ret b s (.int .i32 (lowAt s i)) (if lowAt s i < 0 then i else i + 6) w e w'
theorem LowIs.no {b i : Nat} {s : ByteArray} {w w' : World} (h : lowAt s i = -1) (hr : Rd b s i w') (hg : w.grownBy w' (some b)) : LowIs b s i w (.returned (.int .i32 (-1))) w' := by
  unfold LowIs
  rw [h, if_pos (by omega)]
  exact ⟨rfl, hr, hg⟩

theorem low_start {E : Nat → Addr} (b i : Nat) (s : ByteArray) (w : World) (hs : Sents E w) (hr : Rd b s i w) :
    Rd b s i (((w.alloc (Obj.cells #[.pointer (some ⟨b, 0, none⟩)] 77)).alloc (Obj.cells #[.int .i32 0] 21)).alloc (Obj.cells #[.int .i64 i] 3)) ∧
    Sents E (((w.alloc (Obj.cells #[.pointer (some ⟨b, 0, none⟩)] 77)).alloc (Obj.cells #[.int .i32 0] 21)).alloc (Obj.cells #[.int .i64 i] 3)) ∧
    LowV w.heap.size b i (((w.alloc (Obj.cells #[.pointer (some ⟨b, 0, none⟩)] 77)).alloc (Obj.cells #[.int .i32 0] 21)).alloc (Obj.cells #[.int .i64 i] 3)) ∧
    w.grownBy (((w.alloc (Obj.cells #[.pointer (some ⟨b, 0, none⟩)] 77)).alloc (Obj.cells #[.int .i32 0] 21)).alloc (Obj.cells #[.int .i64 i] 3)) (some b) := by
  have hb : Below w.heap.size w (((w.alloc (Obj.cells #[.pointer (some ⟨b, 0, none⟩)] 77)).alloc (Obj.cells #[.int .i32 0] 21)).alloc (Obj.cells #[.int .i64 i] 3)) :=
    (((Below.refl _ _).alloc (Nat.le_refl _) _).alloc (by simp) _).alloc (by simp; omega) _
  refine ⟨hr.below hb, hs.below hb, ⟨?_, ⟨0, ?_⟩, ?_, ?_⟩, grown_below hb _⟩
  · rw [World.cell?_alloc_lt _ _ ⟨w.heap.size, 0, none⟩ (by simp; omega), World.cell?_alloc_lt _ _ ⟨w.heap.size, 0, none⟩ (by simp), World.cell?_alloc_at _ _ _ _ rfl]; rfl
  · rw [World.cell?_alloc_lt _ _ ⟨w.heap.size + 1, 0, none⟩ (by simp), World.cell?_alloc_at _ _ _ _ (by simp)]; rfl
  · rw [World.frozen?_alloc_old _ _ ⟨w.heap.size + 1, 0, none⟩ (by simp)]; simp
  · rw [World.cell?_alloc_at _ _ _ _ (by simp)]; rfl
theorem low_final {n b i j : Nat} {s : ByteArray} {w w3 : World} (h : LowV n b i w3) (hr : Rd b s j w3) (hb : b < n) (hg : w.grownBy w3 (some b)) (hn : n = w.heap.size := by rfl) :
    ((w3.setCell ⟨b, 1, none⟩ (.int .i64 i)).setCell ⟨n + 1, 0, none⟩ (.int .i32 (-1))).cell? ⟨n + 1, 0, none⟩ = some (.int .i32 (-1)) ∧
    Rd b s i ((w3.setCell ⟨b, 1, none⟩ (.int .i64 i)).setCell ⟨n + 1, 0, none⟩ (.int .i32 (-1))) ∧
    w.grownBy ((w3.setCell ⟨b, 1, none⟩ (.int .i64 i)).setCell ⟨n + 1, 0, none⟩ (.int .i32 (-1))) (some b) := by
  obtain ⟨x, hx⟩ := h.r
  have h1 : (w3.setCell ⟨b, 1, none⟩ (.int .i64 i)).cell? ⟨n + 1, 0, none⟩ = some (.int .i32 x) := (World.cell?_of_block (Below.heap_setCell w3 ⟨b, 1, none⟩ _ (n + 1) (by simp; omega))).trans hx
  refine ⟨World.cell?_setCell_same _ _ _ h1, ?_, ?_⟩
  · have := hr.set i
    exact (Below.heap_setCell _ ⟨n + 1, 0, none⟩ _ b (by simp; omega)).trans this
  · have hg2 := grown_cell hg 1 (.int .i64 i)
    exact ⟨hg2.os, hg2.tape, hg2.output, by have := hg2.size; simpa [World.setCell] using this, fun k hk hne => (Below.heap_setCell _ ⟨n + 1, 0, none⟩ _ k (by simp; omega)).trans (hg2.block k hk hne)⟩

set_option maxHeartbeats 2000000 in
set_option maxRecDepth 100000 in
theorem low_bad1 {E : Nat → Addr} (b : Nat) (s : ByteArray) (i : Nat) (w : World) (hl : s.size ≤ 1000000000) (hs : Sents E w) (hr : Rd b s i w) (h : isAt s i 92 = false) :
    Calls Tryd.prog 112 #[.pointer (some ⟨b, 0, none⟩)] w (LowIs b s i w) := by
  have hlow : lowAt s i = -1 := by unfold lowAt; rw [if_neg (by simp [h])]
  have HL := Lib.hid hlow
  have HH := Lib.hid h
  clear h hlow
  have hmf : ∀ (fn : Fn) (first cap : Array Value) (w : World), (Instr.makeFunc fn first cap).run Tryd.prog w = .ok (.func fn first cap) w := fun _ _ _ _ => rfl
  have d1 := hr.c1
  have hbn := hr.lt
  have H1 := Lib.hid (low_start b i s w hs hr)
  clear hr hs
  go_enter_defers Tryd.func112, Tryd.ntmps112
  go_wp2_with fail
  refine (take_bad (E := E) b s i 92 _ hl H1.out.2.1 H1.out.1 HH.out).mono ?_
  rintro e w3 ⟨p, rfl, _, HG, HRJ⟩
  have HV3 := Lib.hid (H1.out.2.2.1.grown HG.out hbn)
  have HG3 := Lib.hid (H1.out.2.2.2.trans HG.out)
  refine leaves_cons (f := 121) (args := #[.pointer (some ⟨w.heap.size + 2, 0, none⟩), .pointer (some ⟨w.heap.size, 0, none⟩), .pointer (some ⟨w.heap.size + 1, 0, none⟩)]) (by simp) (by simp [go_sem]) ?_
  obtain ⟨jj, HJ⟩ := HRJ
  obtain ⟨x, hx⟩ := HV3.out.r
  refine (low1_panicking ⟨w.heap.size + 2, 0, none⟩ ⟨w.heap.size, 0, none⟩ ⟨w.heap.size + 1, 0, none⟩ b jj s i x p [] _ HJ HV3.out.p HV3.out.d hx HV3.out.f (by simp; omega)).mono ?_
  rintro e u' w'' ⟨rfl, rfl, rfl⟩
  have hfin := low_final (s := s) HV3.out HJ hbn HG3.out
  simp [Leaves, settle, results, Tryd.results112, go_sem, hfin.1]
  exact LowIs.no HL.out hfin.2.1 hfin.2.2
set_option maxHeartbeats 2000000 in
set_option maxRecDepth 100000 in
theorem low_bad2 {E : Nat → Addr} (b : Nat) (s : ByteArray) (i : Nat) (w : World) (hl : s.size ≤ 1000000000) (hs : Sents E w) (hr : Rd b s i w) (h : isAt s i 92 = true) (h2 : isAt s (i + 1) 117 = false) :
    Calls Tryd.prog 112 #[.pointer (some ⟨b, 0, none⟩)] w (LowIs b s i w) := by
  have hlow : lowAt s i = -1 := by unfold lowAt; rw [if_neg (by simp [h2])]
  have HL := Lib.hid hlow
  have HH := Lib.hid h
  have HH2 := Lib.hid h2
  clear h h2 hlow
  have hmf : ∀ (fn : Fn) (first cap : Array Value) (w : World), (Instr.makeFunc fn first cap).run Tryd.prog w = .ok (.func fn first cap) w := fun _ _ _ _ => rfl
  have d1 := hr.c1
  have hbn := hr.lt
  have H1 := Lib.hid (low_start b i s w hs hr)
  clear hr hs
  go_enter_defers Tryd.func112, Tryd.ntmps112
  go_wp2_with fail
  refine (take_ok b s i 92 _ hl H1.out.1 HH.out).mono ?_
  rintro e w3 ⟨rfl, HR3, HG⟩
  have HV3 := Lib.hid (H1.out.2.2.1.grown HG.out hbn)
  have HG3 := Lib.hid (H1.out.2.2.2.trans HG.out)
  have HS3 := Lib.hid (H1.out.2.1.grown H1.out.1 HG.out)
  have dd := HV3.out.d
  clear HG H1
  go_wp2_with fail
  refine (take_bad (E := E) b s (i + 1) 117 _ hl HS3.out HR3.out HH2.out).mono ?_
  rintro e w4 ⟨p, rfl, _, HG, HRJ⟩
  replace HV3 := Lib.hid (HV3.out.grown HG.out hbn)
  replace HG3 := Lib.hid (HG3.out.trans HG.out)
  refine leaves_cons (f := 121) (args := #[.pointer (some ⟨w.heap.size + 2, 0, none⟩), .pointer (some ⟨w.heap.size, 0, none⟩), .pointer (some ⟨w.heap.size + 1, 0, none⟩)]) (by simp) (by simp [go_sem]) ?_
  obtain ⟨jj, HJ⟩ := HRJ
  obtain ⟨x, hx⟩ := HV3.out.r
  refine (low1_panicking ⟨w.heap.size + 2, 0, none⟩ ⟨w.heap.size, 0, none⟩ ⟨w.heap.size + 1, 0, none⟩ b jj s i x p [] _ HJ HV3.out.p HV3.out.d hx HV3.out.f (by simp; omega)).mono ?_
  rintro e u' w'' ⟨rfl, rfl, rfl⟩
  have hfin := low_final (s := s) HV3.out HJ hbn HG3.out
  simp [Leaves, settle, results, Tryd.results112, go_sem, hfin.1]
  exact LowIs.no HL.out hfin.2.1 hfin.2.2
set_option maxHeartbeats 2000000 in
set_option maxRecDepth 100000 in
theorem low_bad3 {E : Nat → Addr} (b : Nat) (s : ByteArray) (i : Nat) (w : World) (hl : s.size ≤ 1000000000) (hs : Sents E w) (hr : Rd b s i w) (h : isAt s i 92 = true) (h2 : isAt s (i + 1) 117 = true) (h3 : (unitAt s 4 (i + 2) 0).2.2 ≠ 0) :
    Calls Tryd.prog 112 #[.pointer (some ⟨b, 0, none⟩)] w (LowIs b s i w) := by
  have hlow : lowAt s i = -1 := by unfold lowAt; rw [if_neg (fun h => h3 h.2.2.1)]
  have HL := Lib.hid hlow
  have HH := Lib.hid h
  have HH2 := Lib.hid h2
  have HH3 := Lib.hid h3
  clear h h2 h3 hlow
  have hmf : ∀ (fn : Fn) (first cap : Array Value) (w : World), (Instr.makeFunc fn first cap).run Tryd.prog w = .ok (.func fn first cap) w := fun _ _ _ _ => rfl
  have d1 := hr.c1
  have hbn := hr.lt
  have H1 := Lib.hid (low_start b i s w hs hr)
  clear hr hs
  go_enter_defers Tryd.func112, Tryd.ntmps112
  go_wp2_with fail
  refine (take_ok b s i 92 _ hl H1.out.1 HH.out).mono ?_
  rintro e w3 ⟨rfl, HR3, HG⟩
  have HV3 := Lib.hid (H1.out.2.2.1.grown HG.out hbn)
  have HG3 := Lib.hid (H1.out.2.2.2.trans HG.out)
  have HS3 := Lib.hid (H1.out.2.1.grown H1.out.1 HG.out)
  have dd := HV3.out.d
  clear HG H1
  go_wp2_with fail
  refine (take_ok b s (i + 1) 117 _ hl HR3.out HH2.out).mono ?_
  rintro e w4 ⟨rfl, HR4, HG⟩
  have HV4 := Lib.hid (HV3.out.grown HG.out hbn)
  have HG4 := Lib.hid (HG3.out.trans HG.out)
  have HS4 := Lib.hid (HS3.out.grown HR3.out HG.out)
  have dd := HV4.out.d
  clear HG HV3 HG3 HS3 HR3
  go_wp2_with fail
  refine (unit_any (E := E) b s (i + 2) _ hl HS4.out HR4.out).mono ?_
  intro e w5 ht
  rcases ht with ⟨h0, _⟩ | ⟨_, p, rfl, _, HG, HRJ⟩
  · exact absurd h0 HH3.out
  have HV3 := Lib.hid (HV4.out.grown HG.out hbn)
  have HG3 := Lib.hid (HG4.out.trans HG.out)
  refine leaves_cons (f := 121) (args := #[.pointer (some ⟨w.heap.size + 2, 0, none⟩), .pointer (some ⟨w.heap.size, 0, none⟩), .pointer (some ⟨w.heap.size + 1, 0, none⟩)]) (by simp) (by simp [go_sem]) ?_
  obtain ⟨jj, HJ⟩ := HRJ
  obtain ⟨x, hx⟩ := HV3.out.r
  refine (low1_panicking ⟨w.heap.size + 2, 0, none⟩ ⟨w.heap.size, 0, none⟩ ⟨w.heap.size + 1, 0, none⟩ b jj s i x p [] _ HJ HV3.out.p HV3.out.d hx HV3.out.f (by simp; omega)).mono ?_
  rintro e u' w'' ⟨rfl, rfl, rfl⟩
  have hfin := low_final (s := s) HV3.out HJ hbn HG3.out
  simp [Leaves, settle, results, Tryd.results112, go_sem, hfin.1]
  exact LowIs.no HL.out hfin.2.1 hfin.2.2
theorem LowV.store {n b i : Nat} {w : World} (h : LowV n b i w) (x : Int) : LowV n b i (w.setCell ⟨n + 1, 0, none⟩ (.int .i32 x)) := by
  obtain ⟨y, hy⟩ := h.r
  exact ⟨(World.cell?_of_block (Below.heap_setCell w ⟨n + 1, 0, none⟩ _ n (by simp))).trans h.d, ⟨x, World.cell?_setCell_same _ _ _ hy⟩, by rw [World.frozen?_setCell]; exact h.f, (World.cell?_of_block (Below.heap_setCell w ⟨n + 1, 0, none⟩ _ (n + 2) (by simp))).trans h.p⟩
theorem low_store {n b j : Nat} {s : ByteArray} {w w3 : World} (hr : Rd b s j w3) (hb : b < n) (hg : w.grownBy w3 (some b)) (hn : n = w.heap.size) (v : Value) : Rd b s j (w3.setCell ⟨n + 1, 0, none⟩ v) ∧ w.grownBy (w3.setCell ⟨n + 1, 0, none⟩ v) (some b) :=
  ⟨(Below.heap_setCell _ ⟨n + 1, 0, none⟩ _ b (by simp; omega)).trans hr, ⟨hg.os, hg.tape, hg.output, by have := hg.size; simpa [World.setCell] using this, fun k hk hne => (Below.heap_setCell _ ⟨n + 1, 0, none⟩ _ k (by simp; omega)).trans (hg.block k hk hne)⟩⟩
theorem Sents.store {E : Nat → Addr} {w : World} {k : Nat} {x : Int} (h : Sents E w) (hk : w.cell? ⟨k, 0, none⟩ = some (.int .i32 x)) (v : Value) : Sents E (w.setCell ⟨k, 0, none⟩ v) := by
  have key : ∀ {g : Nat} {t : TypeId} {u : Value}, w.cell? ⟨g, 0, none⟩ = some (.iface t u) → (w.setCell ⟨k, 0, none⟩ v).cell? ⟨g, 0, none⟩ = some (.iface t u) := by
    intro g t u hg
    have : g ≠ k := by intro e; subst e; rw [hk] at hg; simp at hg
    exact (World.cell?_of_block (Below.heap_setCell w ⟨k, 0, none⟩ _ g this)).trans hg
  exact ⟨key h.et, key h.c1, key h.c2, fun a => key (h.c3 a), key h.c4, key h.c5, fun a => key (h.c6 a), key h.c7, fun a => key (h.c8 a), key h.c9, fun a => key (h.c10 a), fun a => key (h.c11 a), fun a => key (h.c12 a), fun a => key (h.c13 a), fun a => key (h.c14 a), fun a => key (h.c15 a), fun a => key (h.c16 a), key h.c17, fun a => key (h.c18 a)⟩

set_option maxHeartbeats 2000000 in
set_option maxRecDepth 100000 in
theorem low_bad4 {E : Nat → Addr} (b : Nat) (s : ByteArray) (i : Nat) (w : World) (hl : s.size ≤ 1000000000) (hs : Sents E w) (hr : Rd b s i w) (h : isAt s i 92 = true) (h2 : isAt s (i + 1) 117 = true) (h3 : (unitAt s 4 (i + 2) 0).2.2 = 0) (h4 : (unitAt s 4 (i + 2) 0).1 < 56320 ∨ 57343 < (unitAt s 4 (i + 2) 0).1) :
    Calls Tryd.prog 112 #[.pointer (some ⟨b, 0, none⟩)] w (LowIs b s i w) := by
  have hlow : lowAt s i = -1 := by unfold lowAt; rw [if_neg (fun h => by omega)]
  have HL := Lib.hid hlow
  have HH := Lib.hid h
  have HH2 := Lib.hid h2
  have HU := Lib.hid h3
  clear h h2 h3 hlow
  have hmf : ∀ (fn : Fn) (first cap : Array Value) (w : World), (Instr.makeFunc fn first cap).run Tryd.prog w = .ok (.func fn first cap) w := fun _ _ _ _ => rfl
  have d1 := hr.c1
  have hbn := hr.lt
  have H1 := Lib.hid (low_start b i s w hs hr)
  clear hr hs
  go_enter_defers Tryd.func112, Tryd.ntmps112
  go_wp2_with fail
  refine (take_ok b s i 92 _ hl H1.out.1 HH.out).mono ?_
  rintro e w3 ⟨rfl, HR3, HG⟩
  have HV3 := Lib.hid (H1.out.2.2.1.grown HG.out hbn)
  have HG3 := Lib.hid (H1.out.2.2.2.trans HG.out)
  have HS3 := Lib.hid (H1.out.2.1.grown H1.out.1 HG.out)
  have dd := HV3.out.d
  clear HG H1
  go_wp2_with fail
  refine (take_ok b s (i + 1) 117 _ hl HR3.out HH2.out).mono ?_
  rintro e w4 ⟨rfl, HR4, HG⟩
  have HV4 := Lib.hid (HV3.out.grown HG.out hbn)
  have HG4 := Lib.hid (HG3.out.trans HG.out)
  have HS4 := Lib.hid (HS3.out.grown HR3.out HG.out)
  have dd := HV4.out.d
  clear HG HV3 HG3 HS3 HR3
  go_wp2_with fail
  refine (unit_any (E := E) b s (i + 2) _ hl HS4.out HR4.out).mono ?_
  intro e w5 ht
  have hret := Or.resolve_right ht (fun h => h.1 HU.out)
  obtain ⟨rfl, HR5, HG⟩ := hret.2
  clear hret ht
  have HV5 := Lib.hid (HV4.out.grown HG.out hbn)
  have HG5 := Lib.hid (HG4.out.trans HG.out)
  have HS5 := Lib.hid (HS4.out.grown HR4.out HG.out)
  obtain ⟨x5, hx5⟩ := HV5.out.r
  have f5 := HV5.out.f
  have HV6 := Lib.hid (HV5.out.store (unitAt s 4 (i + 2) 0).1)
  have H6 := Lib.hid (low_store HR5.out hbn HG5.out rfl (.int .i32 (unitAt s 4 (i + 2) 0).1))
  have HS6 := Lib.hid (HS5.out.store hx5 (.int .i32 (unitAt s 4 (i + 2) 0).1))
  clear HG HV4 HG4 HS4 HR4
  generalize (unitAt s 4 (i + 2) 0).1 = u at *
  have q3 : (w5.setCell ⟨w.heap.size + 1, 0, none⟩ (.int .i32 u)).cell? ⟨w.heap.size + 2, 0, none⟩ = some (.int .i64 i) := HV6.out.p
  have g4 := HS6.out.c4
  by_cases hu : u < 56320
  · go_wp2_with fail
    refine (throw_any _ _ _).mono ?_
    rintro e w7 ⟨rfl, hw7⟩
    rw [hw7]
    have HV3 := Lib.hid (HV6.out.grown (World.grownBy_alloc _ (.cells #[.int .i64 i, .iface 180 (.pointer (some (E 4)))] 71) _) hbn)
    have HG3 := Lib.hid (H6.out.2.trans (World.grownBy_alloc _ (.cells #[.int .i64 i, .iface 180 (.pointer (some (E 4)))] 71) _))
    have HRJ : Hid (∃ j, Rd b s j ((w5.setCell ⟨w.heap.size + 1, 0, none⟩ (.int .i32 u)).alloc (.cells #[.int .i64 i, .iface 180 (.pointer (some (E 4)))] 71))) := ⟨_, H6.out.1.kept (World.grownBy_alloc _ _ none) (by simp)⟩
    refine leaves_cons (f := 121) (args := #[.pointer (some ⟨w.heap.size + 2, 0, none⟩), .pointer (some ⟨w.heap.size, 0, none⟩), .pointer (some ⟨w.heap.size + 1, 0, none⟩)]) (by simp) (by simp [go_sem]) ?_
    obtain ⟨jj, HJ⟩ := HRJ
    obtain ⟨x, hx⟩ := HV3.out.r
    refine (low1_panicking ⟨w.heap.size + 2, 0, none⟩ ⟨w.heap.size, 0, none⟩ ⟨w.heap.size + 1, 0, none⟩ b jj s i x _ [] _ HJ HV3.out.p HV3.out.d hx HV3.out.f (by simp; omega)).mono ?_
    rintro e u' w'' ⟨rfl, rfl, rfl⟩
    have hfin := low_final (s := s) HV3.out HJ hbn HG3.out
    simp [Leaves, settle, results, Tryd.results112, go_sem, hfin.1]
    exact LowIs.no HL.out hfin.2.1 hfin.2.2
  · have hu2 : 57343 < u := by omega
    go_wp2_with fail
    refine (throw_any _ _ _).mono ?_
    rintro e w7 ⟨rfl, hw7⟩
    rw [hw7]
    have HV3 := Lib.hid (HV6.out.grown (World.grownBy_alloc _ (.cells #[.int .i64 i, .iface 180 (.pointer (some (E 4)))] 71) _) hbn)
    have HG3 := Lib.hid (H6.out.2.trans (World.grownBy_alloc _ (.cells #[.int .i64 i, .iface 180 (.pointer (some (E 4)))] 71) _))
    have HRJ : Hid (∃ j, Rd b s j ((w5.setCell ⟨w.heap.size + 1, 0, none⟩ (.int .i32 u)).alloc (.cells #[.int .i64 i, .iface 180 (.pointer (some (E 4)))] 71))) := ⟨_, H6.out.1.kept (World.grownBy_alloc _ _ none) (by simp)⟩
    refine leaves_cons (f := 121) (args := #[.pointer (some ⟨w.heap.size + 2, 0, none⟩), .pointer (some ⟨w.heap.size, 0, none⟩), .pointer (some ⟨w.heap.size + 1, 0, none⟩)]) (by simp) (by simp [go_sem]) ?_
    obtain ⟨jj, HJ⟩ := HRJ
    obtain ⟨x, hx⟩ := HV3.out.r
    refine (low1_panicking ⟨w.heap.size + 2, 0, none⟩ ⟨w.heap.size, 0, none⟩ ⟨w.heap.size + 1, 0, none⟩ b jj s i x _ [] _ HJ HV3.out.p HV3.out.d hx HV3.out.f (by simp; omega)).mono ?_
    rintro e u' w'' ⟨rfl, rfl, rfl⟩
    have hfin := low_final (s := s) HV3.out HJ hbn HG3.out
    simp [Leaves, settle, results, Tryd.results112, go_sem, hfin.1]
    exact LowIs.no HL.out hfin.2.1 hfin.2.2
set_option maxHeartbeats 2000000 in
set_option maxRecDepth 100000 in
theorem low_good {E : Nat → Addr} (b : Nat) (s : ByteArray) (i : Nat) (w : World) (hl : s.size ≤ 1000000000) (hs : Sents E w) (hr : Rd b s i w) (h : isAt s i 92 = true) (h2 : isAt s (i + 1) 117 = true) (h3 : (unitAt s 4 (i + 2) 0).2.2 = 0) (h4 : 56320 ≤ (unitAt s 4 (i + 2) 0).1) (h5 : (unitAt s 4 (i + 2) 0).1 ≤ 57343) :
    Calls Tryd.prog 112 #[.pointer (some ⟨b, 0, none⟩)] w (LowIs b s i w) := by
  have hlow : lowAt s i = (unitAt s 4 (i + 2) 0).1 := by unfold lowAt; rw [if_pos ⟨h, h2, h3, h4, h5⟩]
  have HL := Lib.hid hlow
  have HH := Lib.hid h
  have HH2 := Lib.hid h2
  have HU := Lib.hid h3
  clear h h2 h3 hlow
  have hmf : ∀ (fn : Fn) (first cap : Array Value) (w : World), (Instr.makeFunc fn first cap).run Tryd.prog w = .ok (.func fn first cap) w := fun _ _ _ _ => rfl
  have d1 := hr.c1
  have hbn := hr.lt
  have H1 := Lib.hid (low_start b i s w hs hr)
  clear hr hs
  go_enter_defers Tryd.func112, Tryd.ntmps112
  go_wp2_with fail
  refine (take_ok b s i 92 _ hl H1.out.1 HH.out).mono ?_
  rintro e w3 ⟨rfl, HR3, HG⟩
  have HV3 := Lib.hid (H1.out.2.2.1.grown HG.out hbn)
  have HG3 := Lib.hid (H1.out.2.2.2.trans HG.out)
  have HS3 := Lib.hid (H1.out.2.1.grown H1.out.1 HG.out)
  have dd := HV3.out.d
  clear HG H1
  go_wp2_with fail
  refine (take_ok b s (i + 1) 117 _ hl HR3.out HH2.out).mono ?_
  rintro e w4 ⟨rfl, HR4, HG⟩
  have HV4 := Lib.hid (HV3.out.grown HG.out hbn)
  have HG4 := Lib.hid (HG3.out.trans HG.out)
  have HS4 := Lib.hid (HS3.out.grown HR3.out HG.out)
  have dd := HV4.out.d
  clear HG HV3 HG3 HS3 HR3
  go_wp2_with fail
  refine (unit_any (E := E) b s (i + 2) _ hl HS4.out HR4.out).mono ?_
  intro e w5 ht
  have hret := Or.resolve_right ht (fun h => h.1 HU.out)
  obtain ⟨rfl, HR5, HG⟩ := hret.2
  clear hret ht
  have HV5 := Lib.hid (HV4.out.grown HG.out hbn)
  have HG5 := Lib.hid (HG4.out.trans HG.out)
  have HS5 := Lib.hid (HS4.out.grown HR4.out HG.out)
  obtain ⟨x5, hx5⟩ := HV5.out.r
  have f5 := HV5.out.f
  have HV6 := Lib.hid (HV5.out.store (unitAt s 4 (i + 2) 0).1)
  have H6 := Lib.hid (low_store HR5.out hbn HG5.out rfl (.int .i32 (unitAt s 4 (i + 2) 0).1))
  have HS6 := Lib.hid (HS5.out.store hx5 (.int .i32 (unitAt s 4 (i + 2) 0).1))
  clear HG HV4 HG4 HS4 HR4
  generalize (unitAt s 4 (i + 2) 0).1 = u at *
  have q3 : (w5.setCell ⟨w.heap.size + 1, 0, none⟩ (.int .i32 u)).cell? ⟨w.heap.size + 1, 0, none⟩ = some (.int .i32 u) := World.cell?_setCell_same _ _ _ hx5
  have q4 : ((w5.setCell ⟨w.heap.size + 1, 0, none⟩ (.int .i32 u)).setCell ⟨w.heap.size + 1, 0, none⟩ (.int .i32 u)).cell? ⟨w.heap.size + 1, 0, none⟩ = some (.int .i32 u) := World.cell?_setCell_same _ _ _ q3
  have H7 := Lib.hid (low_store H6.out.1 hbn H6.out.2 rfl (.int .i32 u))
  go_wp2_with fail
  refine leaves_cons (f := 121) (args := #[.pointer (some ⟨w.heap.size + 2, 0, none⟩), .pointer (some ⟨w.heap.size, 0, none⟩), .pointer (some ⟨w.heap.size + 1, 0, none⟩)]) (by simp) (by simp [go_sem]) ?_
  refine (low1_idle ⟨w.heap.size + 2, 0, none⟩ ⟨w.heap.size, 0, none⟩ ⟨w.heap.size + 1, 0, none⟩ _).mono ?_
  rintro e u' w'' ⟨rfl, rfl, rfl⟩
  simp [Leaves, settle, results, Tryd.results112, go_sem, q4]
  unfold LowIs
  rw [HL.out, if_neg (by omega)]
  exact ⟨rfl, H7.out.1, H7.out.2⟩

theorem low_any {E : Nat → Addr} (b : Nat) (s : ByteArray) (i : Nat) (w : World) (hl : s.size ≤ 1000000000) (hs : Sents E w) (hr : Rd b s i w) :
    Calls Tryd.prog 112 #[.pointer (some ⟨b, 0, none⟩)] w (LowIs b s i w) := by
  cases h : isAt s i 92 with
  | false => exact low_bad1 b s i w hl hs hr h
  | true =>
    cases h2 : isAt s (i + 1) 117 with
    | false => exact low_bad2 b s i w hl hs hr h h2
    | true =>
      by_cases h3 : (unitAt s 4 (i + 2) 0).2.2 = 0
      · by_cases h4 : 56320 ≤ (unitAt s 4 (i + 2) 0).1 ∧ (unitAt s 4 (i + 2) 0).1 ≤ 57343
        · exact low_good b s i w hl hs hr h h2 h3 h4.1 h4.2
        · exact low_bad4 b s i w hl hs hr h h2 h3 (by omega)
      · exact low_bad3 b s i w hl hs hr h h2 h3
end

section
open Go.RowKit Go.PlainAid

def EscIs (E : Nat → Addr) (b : Nat) (s : ByteArray) (fr : Nat) (w : World) (e : Ending) (w' : World) : Prop :=
  ((escAt s fr).2.2 = 0 ∧ Ret b s (.int .i32 (escAt s fr).1) (escAt s fr).2.1.toNat w e w') ∨ ((escAt s fr).2.2 ≠ 0 ∧ Thr E b s (escAt s fr).2.1 (escAt s fr).2.2 w e w')
theorem EscIs.good {E : Nat → Addr} {b : Nat} {s : ByteArray} {fr j : Nat} {r : Int} {w w' : World} {e : Ending} (h : escAt s fr = (r, (j : Int), 0)) (hr : Ret b s (.int .i32 r) j w e w') : EscIs E b s fr w e w' := .inl (by rw [h]; exact ⟨rfl, hr⟩)
theorem EscIs.bad {E : Nat → Addr} {b : Nat} {s : ByteArray} {fr : Nat} {r p n : Int} {w w' : World} {e : Ending} (h : escAt s fr = (r, p, n)) (hn : n ≠ 0) (hr : Thr E b s p n w e w') : EscIs E b s fr w e w' := .inr (by rw [h]; exact ⟨hn, hr⟩)
theorem lowAt_range (s : ByteArray) (i : Nat) : lowAt s i = -1 ∨ (56320 ≤ lowAt s i ∧ lowAt s i ≤ 57343) := by
  unfold lowAt
  split
  · rename_i h; exact .inr ⟨h.2.2.2.1, h.2.2.2.2⟩
  · exact .inl rfl

set_option maxHeartbeats 4000000 in
set_option maxRecDepth 100000 in
theorem esc_plain {E : Nat → Addr} (b : Nat) (s : ByteArray) (fr : Nat) (w : World) (hl : s.size ≤ 1000000000) (hr : Rd b s (fr + 1) w) (h : fr + 1 < s.size) (h0 : 0 ≤ escOf (bt s (fr + 1))) :
    Calls Tryd.prog 91 #[.pointer (some ⟨b, 0, none⟩), .int .i64 fr] w (EscIs E b s fr w) := by
  have HE : Hid (escAt s fr = (escOf (bt s (fr + 1)), ((fr + 2 : Nat) : Int), 0)) := by
    show _ = _
    unfold escAt
    rw [if_neg (by omega), if_pos h0]
    rfl
  have HP := Lib.hid (peek_ok b s (fr + 1) w hl hr h)
  obtain ⟨x, HX⟩ : ∃ x, Hid (bt s (fr + 1) = x) := ⟨_, rfl⟩
  rw [HX.out] at HP HE h0
  have hx : x = 98 ∨ x = 102 ∨ x = 110 ∨ x = 114 ∨ x = 116 ∨ x = 34 ∨ x = 92 ∨ x = 47 := by
    unfold escOf at h0; omega
  clear hr h0 HX
  rcases hx with rfl | rfl | rfl | rfl | rfl | rfl | rfl | rfl
  all_goals
    go_enter Tryd.func91, Tryd.ntmps91
    go_wp2_with fail
    refine HP.out.mono ?_
    rintro e w1 ⟨rfl, HR, HG⟩
    have c1 := HR.out.c1
    have f1 := HR.out.f1
    go_wp2_with fail
    go_ret
    exact EscIs.good HE.out ⟨rfl, by have := HR.out.set (fr + 2); push_cast at this; exact this, grown_cell HG.out _ _⟩

set_option maxHeartbeats 4000000 in
set_option maxRecDepth 100000 in
theorem esc_bad1 {E : Nat → Addr} (b : Nat) (s : ByteArray) (fr : Nat) (w : World) (hl : s.size ≤ 1000000000) (hs : Sents E w) (hr : Rd b s (fr + 1) w) (h : s.size ≤ fr + 1) :
    Calls Tryd.prog 91 #[.pointer (some ⟨b, 0, none⟩), .int .i64 fr] w (EscIs E b s fr w) := by
  have HE : Hid (escAt s fr = (0, (s.size : Int), 2)) := by
    show _ = _
    unfold escAt
    rw [if_pos h]
  have HP := Lib.hid (peek_end b s (fr + 1) w hl hs hr h)
  clear hr hs
  go_enter Tryd.func91, Tryd.ntmps91
  go_wp2_with fail
  refine HP.out.mono ?_
  intro e w1 ht
  have HT := Lib.hid ht
  obtain ⟨p, rfl, _, _, _⟩ := ht
  exact ⟨rfl, EscIs.bad HE.out (by omega) HT.out⟩

set_option maxHeartbeats 4000000 in
set_option maxRecDepth 100000 in
theorem esc_bad2 {E : Nat → Addr} (b : Nat) (s : ByteArray) (fr : Nat) (w : World) (hl : s.size ≤ 1000000000) (hs : Sents E w) (hr : Rd b s (fr + 1) w) (h : fr + 1 < s.size) (h0 : escOf (bt s (fr + 1)) < 0) (h1 : bt s (fr + 1) ≠ 117) :
    Calls Tryd.prog 91 #[.pointer (some ⟨b, 0, none⟩), .int .i64 fr] w (EscIs E b s fr w) := by
  have HE : Hid (escAt s fr = (0, ((fr + 1 : Nat) : Int), 1)) := by
    show _ = _
    unfold escAt
    rw [if_neg (by omega), if_neg (by omega), if_pos h1]
    rfl
  have HP := Lib.hid (peek_ok b s (fr + 1) w hl hr h)
  have HS := Lib.hid hs
  have HR0 := Lib.hid hr
  have n0 := bt_nonneg s (fr + 1)
  obtain ⟨x, HX⟩ : ∃ x, Hid (bt s (fr + 1) = x) := ⟨_, rfl⟩
  rw [HX.out] at HP h0 h1 n0
  have e1 : (x == 98) = false := by rw [beq_eq_false_iff_ne]; intro e; subst e; simp [escOf] at h0
  have e2 : (x == 102) = false := by rw [beq_eq_false_iff_ne]; intro e; subst e; simp [escOf] at h0
  have e3 : (x == 110) = false := by rw [beq_eq_false_iff_ne]; intro e; subst e; simp [escOf] at h0
  have e4 : (x == 114) = false := by rw [beq_eq_false_iff_ne]; intro e; subst e; simp [escOf] at h0
  have e5 : (x == 116) = false := by rw [beq_eq_false_iff_ne]; intro e; subst e; simp [escOf] at h0
  have e6 : (x == 34) = false := by rw [beq_eq_false_iff_ne]; intro e; subst e; simp [escOf] at h0
  have e7 : (x == 92) = false := by rw [beq_eq_false_iff_ne]; intro e; subst e; simp [escOf] at h0
  have e8 : (x == 47) = false := by rw [beq_eq_false_iff_ne]; intro e; subst e; simp [escOf] at h0
  have e9 : (x == 117) = false := by rw [beq_eq_false_iff_ne]; exact h1
  clear hr hs h0 h1
  go_enter Tryd.func91, Tryd.ntmps91
  go_wp2_with fail
  refine HP.out.mono ?_
  rintro e w1 ⟨rfl, HR, HG⟩
  have c1 := HR.out.c1
  have f1 := HR.out.f1
  have HR2 : Hid (Rd b s (fr + 2) (w1.setCell ⟨b, 1, none⟩ (.int .i64 ((fr + 2 : Nat) : Int)))) := HR.out.set (fr + 2)
  have HG2 := Lib.hid (grown_cell HG.out 1 (.int .i64 ((fr + 2 : Nat) : Int)))
  have g1 := (HS.out.grown HR0.out HG2.out).c1
  have c2 := HR2.out.c1
  push_cast at HR2 HG2 g1 c2
  go_wp2_with fail
  go_region_dies
  all_goals (refine (throw_any _ _ _).mono ?_; rintro e w' ⟨rfl, rfl⟩; exact ⟨rfl, EscIs.bad HE.out (by omega) (by first | exact thr_new (k := 1) rfl (by omega) (by omega) (HG2.out.trans (grown_drewN _ _ _)) (Rd.drewN HR2.out _) | (rw [show ((fr + 1 : Nat) : Int) = (fr : Int) + 1 from by omega, show IntKind.i64.wrap ((fr : Int) + 1) = (fr : Int) + 1 from by rw [IntKind.wrap_i64]; omega]; exact thr_new (k := 1) rfl (by omega) (by omega) (HG2.out.trans (grown_drewN _ _ _)) (Rd.drewN HR2.out _)))⟩)
end

section
open Go.RowKit Go.PlainAid

set_option maxHeartbeats 4000000 in
set_option maxRecDepth 100000 in
theorem esc_u {E : Nat → Addr} (b : Nat) (s : ByteArray) (fr : Nat) (w : World) (hl : s.size ≤ 1000000000) (hs : Sents E w) (hr : Rd b s (fr + 1) w) (h : fr + 1 < s.size) (h1 : bt s (fr + 1) = 117) :
    Calls Tryd.prog 91 #[.pointer (some ⟨b, 0, none⟩), .int .i64 fr] w (EscIs E b s fr w) := by
  have HE : Hid (escAt s fr = 
    if (unitAt s 4 (fr + 2) 0).2.2 ≠ 0 then unitAt s 4 (fr + 2) 0
    else if 55296 ≤ (unitAt s 4 (fr + 2) 0).1 ∧ (unitAt s 4 (fr + 2) 0).1 ≤ 56319 then (if lowAt s (fr + 6) < 0 then (0, fr, 4) else (65536 + ((unitAt s 4 (fr + 2) 0).1 - 55296) * 1024 + lowAt s (fr + 6) - 56320, fr + 12, 0))
    else if 56320 ≤ (unitAt s 4 (fr + 2) 0).1 ∧ (unitAt s 4 (fr + 2) 0).1 ≤ 57343 then (0, fr, 4)
    else ((unitAt s 4 (fr + 2) 0).1, fr + 6, 0)) := by
    show _ = _
    unfold escAt
    rw [if_neg (by omega), if_neg (by rw [h1]; simp [escOf]), if_neg (fun e => e h1)]
  have HP := Lib.hid (peek_ok b s (fr + 1) w hl hr h)
  have HS := Lib.hid hs
  have HR0 := Lib.hid hr
  rw [h1] at HP
  clear hr hs h1
  go_enter Tryd.func91, Tryd.ntmps91
  go_wp2_with fail
  refine HP.out.mono ?_
  rintro e w1 ⟨rfl, HR, HG⟩
  have c1 := HR.out.c1
  have f1 := HR.out.f1
  have HR2 : Hid (Rd b s (fr + 2) (w1.setCell ⟨b, 1, none⟩ (.int .i64 ((fr + 2 : Nat) : Int)))) := HR.out.set (fr + 2)
  have HG2 := Lib.hid (grown_cell HG.out 1 (.int .i64 ((fr + 2 : Nat) : Int)))
  push_cast at HR2 HG2
  have HS2 := Lib.hid (HS.out.grown HR0.out HG2.out)
  clear HR HG
  go_wp2_with fail
  refine (unit_any (E := E) b s (fr + 2) _ hl HS2.out HR2.out).mono ?_
  intro e w3 ht
  by_cases hu0 : (unitAt s 4 (fr + 2) 0).2.2 = 0
  · have HU := Lib.hid (unitAt_range s 4 (fr + 2) 0 (by omega) hu0)
    have hret := Or.resolve_right ht (fun h => h.1 hu0)
    obtain ⟨rfl, HR3, HG⟩ := hret.2
    clear hret ht
    have HG3 := Lib.hid (HG2.out.trans HG.out)
    have HS3 := Lib.hid (HS2.out.grown HR2.out HG.out)
    clear HG
    have he := HE.out
    rw [if_neg (fun e => e hu0)] at he
    replace HE := Lib.hid he
    have u0 := HU.out.1
    have u1 : (unitAt s 4 (fr + 2) 0).1 < 65536 := by have := HU.out.2.1; omega
    clear hu0 he HU
    generalize (unitAt s 4 (fr + 2) 0).1 = u at *
    by_cases hh : 55296 ≤ u ∧ u ≤ 56319
    · obtain ⟨hh1, hh2⟩ := hh
      have he := HE.out
      rw [if_pos ⟨hh1, hh2⟩] at he
      replace HE := Lib.hid he
      clear he
      go_wp2_with fail
      refine (low_any (E := E) b s (fr + 6) _ hl HS3.out HR3.out).mono ?_
      rintro e w4 ⟨rfl, HR4, HG⟩
      have HG4 := Lib.hid (HG3.out.trans HG.out)
      have HS4 := Lib.hid (HS3.out.grown HR3.out HG.out)
      have c1 := HR4.out.c1
      have g4 := HS4.out.c4
      have HL := Lib.hid (lowAt_range s (fr + 6))
      clear HG
      generalize lowAt s (fr + 6) = l at *
      by_cases hl0 : l < 0
      · have he := HE.out
        rw [if_pos hl0] at he
        replace HE := Lib.hid he
        clear he
        go_wp2_with fail
        refine (throw_any _ _ _).mono ?_
        rintro e w5 ⟨rfl, rfl⟩
        exact ⟨rfl, EscIs.bad HE.out (by omega) (thr_new (k := 4) rfl (by omega) (by omega) HG4.out HR4.out)⟩
      · have he := HE.out
        rw [if_neg hl0] at he
        have hl2 : 56320 ≤ l ∧ l ≤ 57343 := by have := HL.out; omega
        rw [if_neg hl0] at HR4
        replace HE := Lib.hid he
        clear he HL
        go_wp2_with fail
        go_ret
        refine EscIs.good (j := fr + 12) HE.out ⟨rfl, HR4.out, HG4.out⟩
    · have he := HE.out
      rw [if_neg hh] at he
      replace HE := Lib.hid he
      clear he
      have HHH := Lib.hid hh
      have c1 := HR3.out.c1
      have g4 := HS3.out.c4
      clear hh
      have hk : (55296 ≤ u ∧ ¬ u ≤ 56319) ∨ ¬ 55296 ≤ u := by have := HHH.out; omega
      by_cases hr : 56320 ≤ u ∧ u ≤ 57343
      · have he := HE.out
        rw [if_pos hr] at he
        replace HE := Lib.hid he
        have HQ : Hid (utfRight u = false) := by show _ = _; simp [utfRight]; omega
        obtain ⟨hr1, hr2⟩ := hr
        have hr3 : ¬ u ≤ 56319 := by omega
        clear he hk
        go_wp2_with (go_at_call 108; refine (utf_Right_any _ _).mono ?_; rintro e w' ⟨rfl, rfl⟩; rw [HQ.out])
        refine (throw_any _ _ _).mono ?_
        rintro e w5 ⟨rfl, rfl⟩
        exact ⟨rfl, EscIs.bad HE.out (by omega) (thr_new (k := 4) rfl (by omega) (by omega) HG3.out HR3.out)⟩
      · have he := HE.out
        rw [if_neg hr] at he
        replace HE := Lib.hid he
        have HQ : Hid (utfRight u = true) := by show _ = _; simp [utfRight]; omega
        have hr2 : u < 55296 ∨ 57343 < u := by omega
        clear he hk hr
        rcases hr2 with hr2 | hr2
        all_goals
          go_wp2_with (go_at_call 108; refine (utf_Right_any _ _).mono ?_; rintro e w' ⟨rfl, rfl⟩; rw [HQ.out])
          go_ret
          exact EscIs.good (j := fr + 6) HE.out ⟨rfl, HR3.out, HG3.out⟩
  · have HT := Lib.hid (Or.resolve_left ht (fun h => hu0 h.1)).2
    have he := HE.out
    rw [if_pos hu0] at he
    have HU := Lib.hid hu0
    replace HE := Lib.hid he
    clear he hu0 ht
    obtain ⟨p, rfl, h1, h2, h3⟩ := HT.out
    exact ⟨rfl, EscIs.bad HE.out HU.out ⟨p, rfl, h1, HG2.out.trans h2.out, h3⟩⟩
theorem esc_any {E : Nat → Addr} (b : Nat) (s : ByteArray) (fr : Nat) (w : World) (hl : s.size ≤ 1000000000) (hs : Sents E w) (hr : Rd b s (fr + 1) w) :
    Calls Tryd.prog 91 #[.pointer (some ⟨b, 0, none⟩), .int .i64 fr] w (EscIs E b s fr w) := by
  by_cases h : fr + 1 < s.size
  · by_cases h0 : 0 ≤ escOf (bt s (fr + 1))
    · exact esc_plain b s fr w hl hr h h0
    · by_cases h1 : bt s (fr + 1) = 117
      · exact esc_u b s fr w hl hs hr h h1
      · exact esc_bad2 b s fr w hl hs hr h (by omega) h1
  · exact esc_bad1 b s fr w hl hs hr (by omega)
end

section
open Go.RowKit Go.PlainAid

/-- A block that holds one value. -/
def VRow (b : Nat) (cs : Array Value) (w : World) : Prop := w.heap[b]? = some (.cells cs 26 (0, 0))
theorem info_val : (Tryd.prog.info? 26).map (·.size) = some 4 := by kernel_rfl
theorem VRow.lt {b : Nat} {cs : Array Value} {w : World} (h : VRow b cs w) : b < w.heap.size := (Array.getElem?_eq_some_iff.1 h).1
theorem VRow.new (w : World) (cs : Array Value) : VRow w.heap.size cs (w.alloc (.cells cs 26)) := Go.heap_alloc_new w _
theorem VRow.kept {b : Nat} {cs : Array Value} {w w' : World} {row : Option Nat} (h : VRow b cs w) (hg : w.grownBy w' row) (hr : some b ≠ row) : VRow b cs w' := (hg.block b h.lt hr).trans h
theorem VRow.set {b : Nat} {cs ds : Array Value} {w : World} (h : VRow b cs w) : VRow b ds (w.setRow b ds) := by
  unfold VRow at *
  simp [World.setRow, Array.getElem?_modify, h]
theorem Rd.setRow {b i : Nat} {s : ByteArray} {w : World} (h : Rd b s i w) {g : Nat} (hg : g ≠ b) (ds : Array Value) : Rd b s i (w.setRow g ds) := by
  unfold Rd at *
  simp only [World.setRow]
  rw [Array.getElem?_modify, if_neg hg]
  exact h
theorem grown_setRow {w w' : World} {b : Nat} (h : w.grownBy w' (some b)) {g : Nat} (hg : w.heap.size ≤ g) (ds : Array Value) : w.grownBy (w'.setRow g ds) (some b) :=
  ⟨h.os, h.tape, h.output, by have := h.size; simpa [World.setRow] using this, fun k hk hne => by
    have := h.block k hk hne
    rw [← this]
    simp only [World.setRow]
    rw [Array.getElem?_modify, if_neg (by omega)]⟩
theorem wpl_load_val {ops : Array Oper} {rest : List Oper} {a : Act} {w : World} {Q : Exit → Act → World → Prop} {dst : Option Tmp} {x : Operand} {ty : TypeId} {pos : String} {after : Array Edge} {b : Nat} {cs : Array Value}
    (H : VRow b cs w) (hs : cs.size = 4) (hx : a.eval x = .pointer (some ⟨b, 0, none⟩)) (h : wpList Tryd.prog ops Q rest (a.put dst (.agg cs)) w) :
    wpList Tryd.prog ops Q ({ dst := dst, op := .load 26 x, type := ty, pos := pos, after := after, guard := none } :: rest) a w :=
  wpList_load_row rfl 26 x rfl b hx 26 _ (0, 0) _ H Tryd.underlying26 rfl (by rw [hs]; exact info_val) h
theorem wpl_store_val {ops : Array Oper} {rest : List Oper} {a : Act} {w : World} {Q : Exit → Act → World → Prop} {dst : Option Tmp} {x y : Operand} {ty : TypeId} {pos : String} {after : Array Edge} {b : Nat} {old cs : Array Value}
    (H : VRow b old w) (ho : old.size = 4) (hs : cs.size = 4) (h1 : cs.all (·.oneCell') = true) (hx : a.eval x = .pointer (some ⟨b, 0, none⟩)) (hy : a.eval y = .agg cs) (h : wpList Tryd.prog ops Q rest (a.put dst undef) (w.setRow b cs)) :
    wpList Tryd.prog ops Q ({ dst := dst, op := .store 26 x y, type := ty, pos := pos, after := after, guard := none } :: rest) a w :=
  wpList_store_row rfl 26 x y rfl b cs hx hy 26 _ H (by rw [hs]; exact info_val) (by rw [ho, hs]) h1 h
theorem results_val {fn : Func} {p : Tmp} (h : fn.results = #[.cell p 26]) (tmps : Array Value) (w : World) (g : Nat) (cs : Array Value) (hp : tmps.getD p undef = .pointer (some ⟨g, 0, none⟩)) (hg : VRow g cs w) (hs : cs.size = 4) :
    (results fn tmps).run Tryd.prog w = .ok (.agg cs) w :=
  results_cell_row h tmps w g 26 cs (0, 0) _ hp hg Tryd.underlying26 rfl (by rw [hs]; exact info_val)

/-- A value without list and members. -/
def leafA (k : Int) (t : ByteArray) : Array Value := #[.int .i64 k, .string t, .slice none 0 0, .slice none 0 0]

theorem wpl_store_leaf {ops : Array Oper} {rest : List Oper} {a : Act} {w : World} {Q : Exit → Act → World → Prop} {dst : Option Tmp} {x y : Operand} {ty : TypeId} {pos : String} {after : Array Edge} {b : Nat} {k0 k : Int} {t0 t : ByteArray}
    (H : VRow b (leafA k0 t0) w) (hx : a.eval x = .pointer (some ⟨b, 0, none⟩)) (hy : a.eval y = .agg (leafA k t)) (h : wpList Tryd.prog ops Q rest (a.put dst undef) (w.setRow b (leafA k t))) :
    wpList Tryd.prog ops Q ({ dst := dst, op := .store 26 x y, type := ty, pos := pos, after := after, guard := none } :: rest) a w :=
  wpl_store_val H rfl rfl (by simp [leafA, Value.oneCell']) hx hy h

def WordIs (E : Nat → Addr) (b : Nat) (s : ByteArray) (l : List Int) (k : Int) (i : Nat) (w : World) (e : Ending) (w' : World) : Prop :=
  ((wordAt s l i).2 = 0 ∧ Ret b s (.agg (leafA k ⟨#[]⟩)) (wordAt s l i).1.toNat w e w') ∨ ((wordAt s l i).2 ≠ 0 ∧ Thr E b s (wordAt s l i).1 (wordAt s l i).2 w e w')
theorem wordAt_step (s t : ByteArray) (c j : Nat) (h : c < t.size) : wordAt s ((ints t).drop c) j = if isAt s j (bt t c) = true then wordAt s ((ints t).drop (c + 1)) (j + 1) else badAt s j := by
  have h' : c < (ints t).length := by rw [ints_length]; exact h
  have e : (ints t)[c] = bt t c := by rw [bt_ints, List.getD_eq_getElem?_getD, List.getElem?_eq_getElem h']; rfl
  rw [List.drop_eq_getElem_cons h', e]
  rfl
theorem wordAt_end (s t : ByteArray) (j : Nat) : wordAt s ((ints t).drop t.size) j = ((j : Int), 0) := by
  rw [List.drop_of_length_le (by rw [ints_length]; omega)]
  rfl

set_option maxHeartbeats 2000000 in
set_option maxRecDepth 100000 in
theorem word_any {E : Nat → Addr} (b : Nat) (s t : ByteArray) (k : Int) (i : Nat) (w : World) (hl : s.size ≤ 1000000000) (htl : t.size ≤ 100) (hs : Sents E w) (hr : Rd b s i w) :
    Calls Tryd.prog 85 #[.pointer (some ⟨b, 0, none⟩), .string t, .int .i64 k] w (WordIs E b s (ints t) k i w) := by
  have hbt := get_bt t
  have hbn := hr.lt
  have HB0 : Below w.heap.size w (w.alloc (.cells (leafA 0 ⟨#[]⟩) 26)) := (Below.refl _ _).alloc (Nat.le_refl _) _
  have HR0 : Hid (Rd b s i (w.alloc (.cells (leafA 0 ⟨#[]⟩) 26))) := hr.below HB0
  have HS : Hid (Sents E (w.alloc (.cells (leafA 0 ⟨#[]⟩) 26))) := hs.below HB0
  have HV0 := Lib.hid (VRow.new w (leafA 0 ⟨#[]⟩))
  have HG0 := Lib.hid (grown_below HB0 (some b))
  clear hr hs HB0
  go_enter Tryd.func85, Tryd.ntmps85
  go_wp2_with fail
  go_loopg [10] t.size (fun g v10 w' => ∃ c : Nat, v10 = .int .i64 c ∧ Hid (c + g = t.size) ∧ Hid (wordAt s ((ints t).drop c) (i + c) = wordAt s (ints t) i) ∧ Hid (Rd b s (i + c) w') ∧ Hid (Sents E w') ∧ Hid (VRow w.heap.size (leafA 0 ⟨#[]⟩) w') ∧ Hid (w.grownBy w' (some b)))
  case atStart => exact ⟨0, rfl, by show _ = _; omega, by show _ = _; simp, HR0.out, HS.out, HV0.out, HG0.out⟩
  case round =>
    obtain ⟨c, rfl, HI, HD, HR, HS1, HV, HG⟩ := hrel
    clear HR0 HS HV0 HG0
    by_cases hc : c < t.size
    · cases gk with
      | zero => have := HI.out; omega
      | succ k1 =>
        have HI2 : Hid (c + 1 + k1 = t.size) := by have := HI.out; show _ = _; omega
        have hd := HD.out
        rw [wordAt_step s t c _ hc] at hd
        have n0 := bt_nonneg t c
        by_cases hh : isAt s (i + c) (bt t c) = true
        · rw [if_pos hh] at hd
          have HD2 := Lib.hid hd
          have HH := Lib.hid hh
          clear hd hh
          go_wp2_with fail
          refine (take_ok b s (i + c) _ _ hl HR.out HH.out).mono ?_
          rintro e w4 ⟨rfl, HR4, HG4⟩
          have HS4 := Lib.hid (HS1.out.grown HR.out HG4.out)
          have HV4 := Lib.hid (HV.out.kept HG4.out (by simp; omega))
          have HG5 := Lib.hid (HG.out.trans HG4.out)
          clear HS1 HV HG HG4 HR
          go_wp2_with fail
          go_roundg k1
          case measure => omega
          case rel => exact ⟨c + 1, by go_num, HI2, HD2.out, HR4.out, HS4.out, HV4.out, HG5.out⟩
        · rw [if_neg hh] at hd
          have HD2 := Lib.hid hd
          have HH := Lib.hid (Bool.eq_false_iff.2 hh)
          clear hd hh
          go_wp2_with fail
          refine (take_bad (E := E) b s (i + c) _ _ hl HS1.out HR.out HH.out).mono ?_
          rintro e w4 ⟨p, rfl, h1, h2, h3⟩
          exact ⟨rfl, .inr ⟨by rw [← HD2.out]; exact badAt_ne _ _, p, rfl, by rw [← HD2.out]; exact h1, HG.out.trans h2.out, h3⟩⟩
    · obtain rfl : c = t.size := by have := HI.out; omega
      have hd := HD.out
      rw [wordAt_end] at hd
      have HD2 := Lib.hid hd
      clear hd
      go_wp2_with ((with_reducible refine wpl_store_leaf (k := k) (t := ⟨#[]⟩) HV.out ?hx ?hy ?_); (case hx => rfl); (case hy => rfl))
      (try simp only [Exit.inBlock, Exit.then])
      refine bodyPost_ret (v := .agg (leafA k ⟨#[]⟩)) ?_ rfl ?_
      · exact results_val rfl _ _ _ _ rfl HV.out.set rfl
      refine .inl ⟨by rw [← HD2.out], rfl, ?_, grown_setRow HG.out (Nat.le_refl _) _⟩
      rw [← HD2.out]
      exact HR.out.setRow (by omega) _
end

section
open Go.RowKit Go.PlainAid
open Go.Proofs.YtpdpgppaoipnlaaDoorW.PrintWords hiding bt
open Go.Proofs.YtpdpgppaoipnlaaDoorW.PrintMore

theorem escOf_right (b : Int) (h0 : 0 ≤ escOf b) : utfRight (escOf b) = true := by
  have : escOf b = 8 ∨ escOf b = 12 ∨ escOf b = 10 ∨ escOf b = 13 ∨ escOf b = 9 ∨ escOf b = 34 ∨ escOf b = 92 ∨ escOf b = 47 := by
    unfold escOf at *; omega
  simp [utfRight]; omega
theorem lowAt_end (s : ByteArray) (i : Nat) (h : 0 ≤ lowAt s i) : i + 6 ≤ s.size := by
  unfold lowAt at h
  split at h
  · rename_i hc
    have := unitAt_range s 4 (i + 2) 0 (by omega) hc.2.2.1
    have := this.2.2.2
    simp at this
    omega
  · omega
theorem esc_range (s : ByteArray) (fr : Nat) (h : (escAt s fr).2.2 = 0) : utfRight (escAt s fr).1 = true ∧ ∃ j : Nat, (escAt s fr).2.1 = j ∧ fr + 2 ≤ j ∧ j ≤ s.size := by
  unfold escAt at h ⊢
  by_cases h1 : s.size ≤ fr + 1
  · rw [if_pos h1] at h; simp at h
  · rw [if_neg h1] at h ⊢
    by_cases h2 : 0 ≤ escOf (bt s (fr + 1))
    · rw [if_pos h2]
      exact ⟨escOf_right _ h2, fr + 2, by simp, by omega, by omega⟩
    · rw [if_neg h2] at h ⊢
      by_cases h3 : bt s (fr + 1) ≠ 117
      · rw [if_pos h3] at h; simp at h
      · rw [if_neg h3] at h ⊢
        by_cases h4 : (unitAt s 4 (fr + 2) 0).2.2 ≠ 0
        · simp only [if_pos h4] at h; exact absurd h h4
        · simp only [if_neg h4] at h ⊢
          obtain ⟨u0, u1, u2, u3⟩ := unitAt_range s 4 (fr + 2) 0 (by omega) (Decidable.of_not_not h4)
          simp at u3 u1
          generalize (unitAt s 4 (fr + 2) 0).1 = u at *
          by_cases h5 : 55296 ≤ u ∧ u ≤ 56319
          · rw [if_pos h5] at h ⊢
            by_cases h6 : lowAt s (fr + 6) < 0
            · rw [if_pos h6] at h; simp at h
            · rw [if_neg h6]
              have := lowAt_end s (fr + 6) (by omega)
              have := lowAt_range s (fr + 6)
              refine ⟨by simp [utfRight]; omega, fr + 12, by simp, by omega, by omega⟩
          · rw [if_neg h5] at h ⊢
            by_cases h7 : 56320 ≤ u ∧ u ≤ 57343
            · rw [if_pos h7] at h; simp at h
            · rw [if_neg h7]
              exact ⟨by simp [utfRight]; omega, fr + 6, by simp, by omega, by omega⟩

theorem right_snoc {l : List Int} {r : Int} (h : ∀ x ∈ l, utfRight x = true) (hr : utfRight r = true) : ∀ x ∈ l ++ [r], utfRight x = true := by
  intro x hx
  rcases List.mem_append.1 hx with hx | hx
  · exact h x hx
  · rw [List.mem_singleton.1 hx]; exact hr
theorem Sents.heap {E : Nat → Addr} {w w' : World} (h : Sents E w) (hh : w'.heap = w.heap) (h1 : w'.os = w.os := by rfl) (h2 : w'.tape = w.tape := by rfl) (h3 : w'.output = w.output := by rfl) : Sents E w' := h.below ⟨h1, h2, h3, by rw [hh]; exact Nat.le_refl _, fun k _ => by rw [hh]⟩
def StrIs (E : Nat → Addr) (b : Nat) (s : ByteArray) (i : Nat) (w : World) (e : Ending) (w' : World) : Prop :=
  ((strAt s i).2.2 = 0 ∧ Ret b s (.string (txtOf (strAt s i).1)) (strAt s i).2.1.toNat w e w') ∨ ((strAt s i).2.2 ≠ 0 ∧ Thr E b s (strAt s i).2.1 (strAt s i).2.2 w e w')
theorem StrIs.good {E : Nat → Addr} {b : Nat} {s : ByteArray} {i j : Nat} {l : List Int} {w w' : World} {e : Ending} (h : strAt s i = (l, (j : Int), 0)) (hr : Ret b s (.string (txtOf l)) j w e w') : StrIs E b s i w e w' := .inl (by rw [h]; exact ⟨rfl, hr⟩)
theorem StrIs.bad {E : Nat → Addr} {b : Nat} {s : ByteArray} {i : Nat} {l : List Int} {p n : Int} {w w' : World} {e : Ending} (h : strAt s i = (l, p, n)) (hn : n ≠ 0) (hr : Thr E b s p n w e w') : StrIs E b s i w e w' := .inr (by rw [h]; exact ⟨hn, hr⟩)
theorem grown_base {w W w1 : World} {b : Nat} (hg : w.grownBy W (some b)) (hb : Below w.heap.size W w1) : w.grownBy w1 (some b) :=
  ⟨hb.os.trans hg.os, hb.tape.trans hg.tape, hb.output.trans hg.output, by have := hg.size; have := hb.size; omega, fun k hk hne => (hb.block k hk).trans (hg.block k hk hne)⟩

set_option maxHeartbeats 4000000 in
set_option maxRecDepth 100000 in
theorem str_any {E : Nat → Addr} (b : Nat) (s : ByteArray) (i : Nat) (w : World) (hl : s.size ≤ 100000) (hs : Sents E w) (hr : Rd b s i w) :
    Calls Tryd.prog 54 #[.pointer (some ⟨b, 0, none⟩)] w (StrIs E b s i w) := by
  have info := PAll.info21
  have hbn := hr.lt
  have HR0 := Lib.hid hr
  have HS := Lib.hid hs
  clear hr hs
  by_cases h34 : isAt s i 34 = true
  · have HK : Hid (strAt s i = strK s (s.size - i) (i + 1) []) := by show _ = _; unfold strAt; rw [if_pos h34]
    have HH := Lib.hid h34
    have hi : i < s.size := (isAt_lt h34).1
    clear h34
    go_enter Tryd.func54, Tryd.ntmps54
    go_wp2_with fail
    refine (take_ok b s i 34 _ (by omega) HR0.out HH.out).mono ?_
    rintro e w1 ⟨rfl, HR1, HG1⟩
    have HS1 := Lib.hid (HS.out.grown HR0.out HG1.out)
    go_wp2_with fail
    go_loopg [3] (s.size - i) (fun k v3 w' => ∃ (acc : List Int) (j : Nat), Hid (j ≤ s.size ∧ s.size + 1 ≤ j + k ∧ acc.length + 1 ≤ j) ∧ Hid (∀ x ∈ acc, utfRight x = true) ∧ Hid (strK s k j acc = strAt s i) ∧ Hid (Rd b s j w') ∧ Hid (Sents E w') ∧ Hid (w.grownBy w' (some b)) ∧ Hid (Kd.R (Kd.int .i32) 21 w' w.heap.size (fun k => w.heap.size ≤ k) v3 acc))
    case atStart => exact ⟨[], i + 1, ⟨by omega, by omega, by simp⟩, by show ∀ x ∈ _, _; simp, HK.out.symm, HR1.out, HS1.out, HG1.out, Kd.R_nil _ _ _ _ _⟩
    case round =>
      obtain ⟨acc, j, HI, HA, HD, HR, HSJ, HG, HL⟩ := hrel
      clear HR1 HS1 HG1 HK HH
      obtain ⟨k1, rfl⟩ : ∃ k1, gk = k1 + 1 := ⟨gk - 1, by have := HI.out; omega⟩
      by_cases hj : j < s.size
      · have n0 := bt_nonneg s j
        have HD1 := HD.out
        unfold strK at HD1
        rw [if_neg (by omega)] at HD1
        replace HD := Lib.hid HD1
        clear HD1
        have HP := Lib.hid (peek_ok b s j wr (by omega) HR.out hj)
        obtain ⟨x, HX⟩ : ∃ x, Hid (bt s j = x) := ⟨_, rfl⟩
        rw [HX.out] at HP HD n0
        by_cases h34 : x = 34
        · subst h34
          have HD1 := HD.out
          rw [if_pos rfl] at HD1
          replace HD := Lib.hid HD1.symm
          clear HD1 n0
          go_wp2_with fail
          refine HP.out.mono ?_
          rintro e w2 ⟨rfl, HR2, HG2⟩
          have HS2 := Lib.hid (HSJ.out.grown HR.out HG2.out)
          have HL2 := Lib.hid (Kd.R_grown HL.out HG2.out (fun k hk e => by injection e with e; omega))
          have HG3 := Lib.hid (HG.out.trans HG2.out)
          have c1 := HR2.out.c1
          have f1 := HR2.out.f1
          clear HL HG HSJ HP
          go_wp2_with fail
          have HR3 : Hid (Rd b s (j + 1) (w2.setCell ⟨b, 1, none⟩ (.int .i64 ((j : Int) + 1)))) := by have := HR2.out.set (j + 1); push_cast at this; exact this
          have HG4 := Lib.hid (grown_cell HG3.out 1 (.int .i64 ((j : Int) + 1)))
          have hg0 := grown_cell (World.grownBy.refl w2 (some b)) 1 (.int .i64 ((j : Int) + 1))
          have HS3 := Lib.hid (HS2.out.grown HR2.out hg0)
          have HL3 := Lib.hid (Kd.R_grown HL2.out hg0 (fun k hk e => by injection e with e; omega))
          obtain ⟨A, c, rfl, hc, hC⟩ := Kd.R_reads HL3.out
          refine (utf_Encode_ok A c acc _ (by have := HI.out; omega) HS3.out hC HA.out).mono ?_
          rintro e w4 ⟨rfl, hb4⟩
          have HR4 := Lib.hid (HR3.out.below hb4)
          have HG5 := Lib.hid (HG4.out.trans (grown_below hb4 (some b)))
          clear hb4 hC hg0
          go_wp2_with fail
          go_ret
          exact StrIs.good (j := j + 1) HD.out ⟨rfl, HR4.out, HG5.out⟩
        · rw [if_neg h34] at HD
          by_cases h32 : x < 32
          · have HD1 := HD.out
            rw [if_pos h32] at HD1
            replace HD := Lib.hid HD1.symm
            clear HD1
            go_wp2_with fail
            refine HP.out.mono ?_
            rintro e w2 ⟨rfl, HR2, HG2⟩
            have HS2 := Lib.hid (HSJ.out.grown HR.out HG2.out)
            have HG3 := Lib.hid (HG.out.trans HG2.out)
            have c1 := HR2.out.c1
            have g1 := HS2.out.c1
            clear HL HG HSJ HP
            go_wp2_with fail
            go_region_dies
            all_goals (refine (throw_any _ _ _).mono ?_; rintro e w' ⟨rfl, rfl⟩; exact ⟨rfl, StrIs.bad HD.out (by omega) (thr_new (k := 1) rfl (by omega) (by omega) (HG3.out.trans (grown_drewN _ _ _)) (Rd.drewN HR2.out _))⟩)
          · rw [if_neg h32] at HD
            by_cases h92 : x = 92
            · subst h92
              have HD1 := HD.out
              rw [if_pos rfl] at HD1
              replace HD := Lib.hid HD1
              clear HD1 h34 h32 n0
              go_wp2_with fail
              refine HP.out.mono ?_
              rintro e w2 ⟨rfl, HR2, HG2⟩
              have HS2 := Lib.hid (HSJ.out.grown HR.out HG2.out)
              have HL2 := Lib.hid (Kd.R_grown HL.out HG2.out (fun k hk e => by injection e with e; omega))
              have HG3 := Lib.hid (HG.out.trans HG2.out)
              have c1 := HR2.out.c1
              have f1 := HR2.out.f1
              clear HL HG HSJ HP
              go_wp2_with fail
              have HR3 : Hid (Rd b s (j + 1) (w2.setCell ⟨b, 1, none⟩ (.int .i64 ((j : Int) + 1)))) := by have := HR2.out.set (j + 1); push_cast at this; exact this
              have HG4 := Lib.hid (grown_cell HG3.out 1 (.int .i64 ((j : Int) + 1)))
              have hg0 := grown_cell (World.grownBy.refl w2 (some b)) 1 (.int .i64 ((j : Int) + 1))
              have HS3 := Lib.hid (HS2.out.grown HR2.out hg0)
              have HL3 := Lib.hid (Kd.R_grown HL2.out hg0 (fun k hk e => by injection e with e; omega))
              clear hg0 HL2 HS2 HG3
              refine (esc_any (E := E) b s j _ (by omega) HS3.out HR3.out).mono ?_
              intro e w4 ht
              by_cases he0 : (escAt s j).2.2 = 0
              · have hret := Or.resolve_right ht (fun h => h.1 he0)
                obtain ⟨rfl, HR4, HG5⟩ := hret.2
                have HQ := Lib.hid (esc_range s j he0)
                have HD1 := HD.out
                rw [if_pos he0] at HD1
                replace HD := Lib.hid HD1
                clear HD1 hret ht he0
                have HS4 := Lib.hid (HS3.out.grown HR3.out HG5.out)
                have HL4 := Lib.hid (Kd.R_grown HL3.out HG5.out (fun k hk e => by injection e with e; omega))
                have HG6 := Lib.hid (HG4.out.trans HG5.out)
                clear HS3 HL3 HG4 HG5
                generalize (escAt s j).1 = r at *
                obtain ⟨j2, HJ2⟩ : ∃ j2, Hid ((escAt s j).2.1.toNat = j2) := ⟨_, rfl⟩
                rw [HJ2.out] at HR4 HD
                have HB2 : Hid (j + 2 ≤ j2 ∧ j2 ≤ s.size) := by
                  obtain ⟨_, jj, e1, e2, e3⟩ := HQ.out
                  have := HJ2.out
                  rw [e1] at this
                  simp at this
                  subst this
                  exact ⟨e2, e3⟩
                obtain ⟨hj2, hj3⟩ := HB2.out
                go_wp2_with (at_builtin; go_must (refine Kd.R_append (Kd.int .i32) (w0 := w4) w.heap.size rfl (.tmp 92) (.tmp 96) 120 21 (.int .i32 0) 4 rfl Tryd.underlying120 info rfl (by decide) (by omega) _ acc r [.int .i32 r] (fun k => w.heap.size ≤ k) (fun _ => False) rfl rfl ?aP (fun _ hk => hk.elim) ?aF ?aO ?aB ?aS ?aL ?_); (case aP => exact rfl); (case aB => exact Below.refl _ _); (case aF => exact (fun k hk => Nat.le_trans HG6.out.size hk)); (case aO => exact HL4.out); (case aS => exact HG6.out.size); (case aL => have := HI.out; omega); intro v139 w7 ho hb hg7 hat; have HL7 := Lib.hid ho; have HG7 := Lib.hid (grown_base HG6.out hb); have HR7 := Lib.hid ((hb.block b hbn).trans HR4.out); have HS7 := Lib.hid (HS.out.grown HR0.out HG7.out); clear HL4 HS4 HG6 HR4 ho hb hg7 hat)
                go_roundg k1
                case measure => omega
                case rel => exact ⟨acc ++ [r], j2, ⟨hj3, by have := HI.out; omega, by have := HI.out; simp; omega⟩, right_snoc HA.out HQ.out.1, HD.out, HR7.out, HS7.out, HG7.out, HL7.out⟩
              · have HT := Lib.hid (Or.resolve_left ht (fun h => he0 h.1)).2
                have HD1 := HD.out
                rw [if_neg he0] at HD1
                have HE0 := Lib.hid he0
                replace HD := Lib.hid HD1.symm
                clear HD1 ht he0
                obtain ⟨p, rfl, h1, h2, h3⟩ := HT.out
                exact ⟨rfl, StrIs.bad HD.out HE0.out ⟨p, rfl, h1, HG4.out.trans h2.out, h3⟩⟩
            · rw [if_neg h92] at HD
              rcases hn : nx s (j : Int) with ⟨r, n, c⟩
              rw [hn] at HD
              have HN := Lib.hid hn
              clear hn
              have HI1 := Lib.hid HI.out
              go_wp2_with fail
              refine HP.out.mono ?_
              rintro e w2 ⟨rfl, HR2, HG2⟩
              have HS2 := Lib.hid (HSJ.out.grown HR.out HG2.out)
              have HL2 := Lib.hid (Kd.R_grown HL.out HG2.out (fun k hk e => by injection e with e; omega))
              have HG3 := Lib.hid (HG.out.trans HG2.out)
              have c0 := HR2.out.c0
              have c1 := HR2.out.c1
              clear HL HG HSJ HP
              by_cases hc : c = 0
              · subst hc
                have HD1 := HD.out
                rw [if_pos rfl] at HD1
                replace HD := Lib.hid HD1
                clear HD1
                obtain ⟨_, hn1, hn2, hn3, hr0, hr1⟩ := nx_good s j r n HN.out
                have HRR := Lib.hid (nx_form s j r n (by omega) (by omega) HN.out).1
                obtain ⟨nn, rfl⟩ : ∃ nn : Nat, n = nn := ⟨n.toNat, by omega⟩
                go_wp2_with fail
                go_region_with (go_at_call 92; refine (utf_Next_ok s j r nn _ (by omega) (by exact HS2.out.heap rfl) HN.out).mono ?_; rintro e w3 ⟨rfl, hb3⟩; have HR3 := Lib.hid (Rd.below (by exact HR2.out) hb3); have HL3 := Lib.hid (Kd.R_below (Kd.R_drew HL2.out) hb3); have HG4 := Lib.hid (HG3.out.trans ((show w2.grownBy w2.drew (some b) from ⟨rfl, rfl, rfl, Nat.le_refl _, fun _ _ _ => rfl⟩).trans (grown_below hb3 (some b)))); clear hb3 HL2 HS2 HG3)
                all_goals
                  go_wp2_with fail
                  refine (as_nil _ _).mono ?_
                  rintro e w5 ⟨rfl, hw5⟩
                  rw [hw5]
                  clear hw5
                  have HB4 : Hid (Below w3.heap.size w3 (w3.alloc (.cells #[.pointer none] 69))) := (Below.refl _ _).alloc (Nat.le_refl _) _
                  have HR4 := Lib.hid (HR3.out.below HB4.out)
                  have HL4 := Lib.hid (Kd.R_below HL3.out HB4.out)
                  have HG6 := Lib.hid (HG4.out.trans (grown_below HB4.out (some b)))
                  clear HB4 HL3 HG4 HR3
                  obtain ⟨w4, HW4⟩ : ∃ w4, Hid (w3.alloc (.cells #[.pointer none] 69) = w4) := ⟨_, rfl⟩
                  rw [HW4.out] at HR4 HL4 HG6 ⊢
                  clear HW4
                  go_wp2_with (at_builtin; go_must (refine Kd.R_append (Kd.int .i32) (w0 := w4) w.heap.size rfl (.tmp 41) (.tmp 43) 120 21 (.int .i32 0) 4 rfl Tryd.underlying120 info rfl (by decide) (by omega) _ acc r [.int .i32 r] (fun k => w.heap.size ≤ k) (fun _ => False) rfl rfl ?aP (fun _ hk => hk.elim) ?aF ?aO ?aB ?aS ?aL ?_); (case aP => exact rfl); (case aB => exact Below.refl _ _); (case aF => exact (fun k hk => Nat.le_trans HG6.out.size hk)); (case aO => exact HL4.out); (case aS => exact HG6.out.size); (case aL => have := HI1.out; omega); intro v139 w7 ho hb hg7 hat; have HL7 := Lib.hid ho; have HG7 := Lib.hid (grown_base HG6.out hb); have HR7 := Lib.hid ((hb.block b hbn).trans HR4.out); have c7 := Rd.c1 HR7.out; have f7 := Rd.f1 HR7.out; clear HL4 HG6 HR4 ho hb hg7 hat)
                  have HR8 : Hid (Rd b s (j + nn) (w7.setCell ⟨b, 1, none⟩ (.int .i64 ((j : Int) + (nn : Int))))) := by have := Rd.set HR7.out (j + nn); push_cast at this; exact this
                  have HG8 := Lib.hid (grown_cell HG7.out 1 (.int .i64 ((j : Int) + (nn : Int))))
                  have HS8 := Lib.hid (HS.out.grown HR0.out HG8.out)
                  have HL8 := Lib.hid (Kd.R_grown HL7.out (grown_cell (World.grownBy.refl w7 (some b)) 1 (.int .i64 ((j : Int) + (nn : Int)))) (fun k hk e => by injection e with e; omega))
                  have HD9 : Hid (strK s k1 (j + nn) (acc ++ [r]) = strAt s i) := by show _ = _; have := HD.out; simpa using this
                  go_roundg k1
                  case measure => omega
                  case rel => exact ⟨acc ++ [r], j + nn, ⟨by omega, by have := HI1.out; omega, by have := HI1.out; simp; omega⟩, right_snoc HA.out HRR.out, HD9.out, HR8.out, HS8.out, HG8.out, HL8.out⟩
              · have HD1 := HD.out
                rw [if_neg hc] at HD1
                replace HD := Lib.hid HD1.symm
                have HC := Lib.hid hc
                clear HD1 hc
                go_wp2_with fail
                go_region_with (go_at_call 92; refine (utf_Next_bad s j r n c _ (by omega) (by exact HS2.out.heap rfl) HN.out HC.out).mono ?_; rintro e w3 ⟨p, rfl, HE3, hb3⟩; have HR3 := Lib.hid (Rd.below (by exact HR2.out) hb3); have HG4 := Lib.hid (HG3.out.trans ((show w2.grownBy w2.drew (some b) from ⟨rfl, rfl, rfl, Nat.le_refl _, fun _ _ _ => rfl⟩).trans (grown_below hb3 (some b)))); clear hb3 HL2 HS2 HG3)
                all_goals
                  obtain ⟨hc0, _⟩ | ⟨hc1, hc2, bb, hp, h4, h5⟩ := HE3.out
                  · exact absurd hc0 HC.out
                  injection hp with _ hp
                  injection hp with hp
                  injection hp with hp
                  subst hp
                  have hbl : bb < w3.heap.size := World.block_lt_of_cell? w3 _ h4
                  have hs1 : Sents E (w3.alloc (.cells #[.pointer none] 69)) := Sents.below (HS.out.grown HR0.out HG4.out) (by go_grown)
                  go_wp2_with fail
                  refine (as_hit _ _ (.pointer none) _ hs1 (by simp) (by simp)).mono ?_
                  rintro e w' ⟨rfl, w5, hb, rfl⟩
                  have hb0 : Below w3.heap.size w3 w5 := (show Below w3.heap.size w3 (w3.alloc (.cells #[.pointer none] 69)) by go_grown).trans (hb.mono (by simp))
                  have g4 : (w5.setCell ⟨w3.heap.size, 0, none⟩ (.pointer (some ⟨bb, 0, none⟩))).cell? ⟨bb, 0, none⟩ = some (.int .i64 j) := by have := cell_below hb0 h4; go_cell
                  have g5 : (w5.setCell ⟨w3.heap.size, 0, none⟩ (.pointer (some ⟨bb, 0, none⟩))).cell? ⟨bb, 1, none⟩ = some (.iface 180 (.pointer (some (E c.toNat)))) := by have := cell_below hb0 h5; go_cell
                  have g7 : (w5.setCell ⟨w3.heap.size, 0, none⟩ (.pointer (some ⟨bb, 0, none⟩))).cell? ⟨w3.heap.size, 0, none⟩ = some (.pointer (some ⟨bb, 0, none⟩)) := by
                    have g0 : w5.cell? ⟨w3.heap.size, 0, none⟩ = some (.pointer none) := cell_below hb (by simp)
                    go_cell
                  obtain ⟨w6, HW6⟩ : ∃ w6, Hid (w5.setCell ⟨w3.heap.size, 0, none⟩ (.pointer (some ⟨bb, 0, none⟩)) = w6) := ⟨_, rfl⟩
                  have HB6 : Hid (Below w3.heap.size w3 w6) := by rw [← HW6.out]; exact hb0.setCell (Nat.le_refl _) _
                  rw [HW6.out] at g4 g5 g7 ⊢
                  have HR6 := Lib.hid (HR3.out.below HB6.out)
                  have HG6 := Lib.hid (HG4.out.trans (grown_below HB6.out (some b)))
                  clear hb hb0 HW6 hs1 h4 h5 HE3 HR3 HG4
                  go_wp2_with fail
                  go_region_dies
                  all_goals (refine (throw_any _ _ _).mono ?_; rintro e w' ⟨rfl, rfl⟩; exact ⟨rfl, StrIs.bad HD.out HC.out (thr_new (k := c.toNat) (by omega) (by omega) (by omega) (HG6.out.trans (grown_drewN _ _ _)) (Rd.drewN HR6.out _))⟩)
      · have HD1 := HD.out
        unfold strK at HD1
        rw [if_pos (by omega)] at HD1
        replace HD := Lib.hid HD1.symm
        clear HD1
        have HP := Lib.hid (peek_end (E := E) b s j wr (by omega) HSJ.out HR.out (by omega))
        go_wp2_with fail
        refine HP.out.mono ?_
        intro e w2 ht
        have HT := Lib.hid ht
        obtain ⟨p, rfl, h1, h2, h3⟩ := ht
        exact ⟨rfl, StrIs.bad HD.out (by omega) ⟨p, rfl, h1, HG.out.trans h2.out, h3⟩⟩
  · have HK : Hid (strAt s i = ([], (badAt s i).1, (badAt s i).2)) := by show _ = _; unfold strAt; rw [if_neg h34]
    have HH := Lib.hid (Bool.eq_false_iff.2 h34)
    clear h34
    go_enter Tryd.func54, Tryd.ntmps54
    go_wp2_with fail
    refine (take_bad (E := E) b s i 34 _ (by omega) HS.out HR0.out HH.out).mono ?_
    intro e w1 ht
    have HT := Lib.hid ht
    obtain ⟨p, rfl, _, _, _⟩ := ht
    exact ⟨rfl, StrIs.bad HK.out (badAt_ne _ _) HT.out⟩
end

section
open Go.RowKit Go.PlainAid

theorem spcs_le (s : ByteArray) : ∀ k i : Nat, i + k = s.size → i ≤ spcs s k i ∧ spcs s k i ≤ s.size
  | 0, i, h => by simp [spcs]; omega
  | k + 1, i, h => by
    unfold spcs
    split
    · have := spcs_le s k (i + 1) (by omega); omega
    · omega
theorem spc_le (s : ByteArray) (i : Nat) (h : i ≤ s.size) : i ≤ spc s i ∧ spc s i ≤ s.size := spcs_le s (s.size - i) i (by omega)
theorem wordAt_range (s : ByteArray) : ∀ (l : List Int) (i : Nat), l ≠ [] → (wordAt s l i).2 = 0 → (wordAt s l i).1 = ((i + l.length : Nat) : Int) ∧ i + l.length ≤ s.size
  | [], _, h, _ => absurd rfl h
  | [c], i, _, h => by
    unfold wordAt at h ⊢
    by_cases hc : isAt s i c = true
    · rw [if_pos hc]
      have := (isAt_lt hc).1
      simp [wordAt]; omega
    · rw [if_neg hc] at h; exact absurd h (badAt_ne s i)
  | c :: c2 :: l, i, _, h => by
    unfold wordAt at h ⊢
    by_cases hc : isAt s i c = true
    · rw [if_pos hc] at h ⊢
      have := wordAt_range s (c2 :: l) (i + 1) (by simp) h
      refine ⟨by rw [this.1]; simp; omega, by have := this.2; simp at this ⊢; omega⟩
    · rw [if_neg hc] at h; exact absurd h (badAt_ne s i)
theorem strK_range (s : ByteArray) : ∀ (k i : Nat) (acc : List Int), i ≤ s.size → s.size + 1 ≤ i + k → (strK s k i acc).2.2 = 0 → ∃ j : Nat, (strK s k i acc).2.1 = j ∧ i ≤ j ∧ j ≤ s.size
  | 0, i, acc, h1, h2, _ => by omega
  | k + 1, i, acc, h1, h2, h => by
    unfold strK at h ⊢
    by_cases c1 : s.size ≤ i
    · rw [if_pos c1] at h; simp at h
    · rw [if_neg c1] at h ⊢
      by_cases c2 : bt s i = 34
      · rw [if_pos c2]; exact ⟨i + 1, by simp, by omega, by omega⟩
      · rw [if_neg c2] at h ⊢
        by_cases c3 : bt s i < 32
        · rw [if_pos c3] at h; simp at h
        · rw [if_neg c3] at h ⊢
          by_cases c4 : bt s i = 92
          · rw [if_pos c4] at h ⊢
            by_cases c5 : (escAt s i).2.2 = 0
            · rw [if_pos c5] at h ⊢
              obtain ⟨_, jj, e1, e2, e3⟩ := esc_range s i c5
              rw [e1] at h ⊢
              simp only [Int.toNat_natCast] at h ⊢
              obtain ⟨j, f1, f2, f3⟩ := strK_range s k jj _ e3 (by omega) h
              exact ⟨j, f1, by omega, f3⟩
            · rw [if_neg c5] at h; exact absurd h c5
          · rw [if_neg c4] at h ⊢
            rcases hn : nx s (i : Int) with ⟨r, n, c⟩
            rw [hn] at h
            by_cases c6 : c = 0
            · subst c6
              rw [if_pos rfl] at h ⊢
              obtain ⟨_, g1, g2, _⟩ := nx_good s i r n hn
              obtain ⟨j, f1, f2, f3⟩ := strK_range s k (i + n.toNat) _ (by omega) (by omega) h
              exact ⟨j, f1, by omega, f3⟩
            · rw [if_neg c6] at h; exact absurd h c6
theorem strAt_range (s : ByteArray) (i : Nat) (h : (strAt s i).2.2 = 0) : ∃ j : Nat, (strAt s i).2.1 = j ∧ i < j ∧ j ≤ s.size := by
  unfold strAt at h ⊢
  by_cases c : isAt s i 34 = true
  · rw [if_pos c] at h ⊢
    have := (isAt_lt c).1
    obtain ⟨j, f1, f2, f3⟩ := strK_range s _ (i + 1) [] (by omega) (by omega) h
    exact ⟨j, f1, by omega, f3⟩
  · rw [if_neg c] at h; exact absurd h (badAt_ne s i)
theorem dgs_lt (s : ByteArray) (i : Nat) (h : digAt s i = true) : i < dgs s i ∧ dgs s i ≤ s.size := by
  have hi : i < s.size := by unfold digAt at h; simp at h; exact h.1
  obtain ⟨k, hk⟩ : ∃ k, s.size - i = k + 1 := ⟨s.size - i - 1, by omega⟩
  unfold dgs
  rw [hk]
  unfold digs
  rw [if_pos h]
  have := digs_le s k (i + 1) (by omega)
  omega
end

section
open Go.RowKit Go.PlainAid

theorem numAt_range (s : ByteArray) (i : Nat) (h : (numAt s i).2 = 0) : ∃ j : Nat, (numAt s i).1 = j ∧ i < j ∧ j ≤ s.size := by
  unfold numAt at h ⊢
  simp only at h ⊢
  have a0 : i ≤ (if isAt s i 45 = true then i + 1 else i) := by split <;> omega
  generalize (if isAt s i 45 = true then i + 1 else i) = i0 at *
  by_cases c0 : digAt s i0 = false
  · rw [if_pos c0] at h; exact absurd h (badAt_ne s i0)
  · rw [if_neg c0] at h ⊢
    have c0' : digAt s i0 = true := by simpa using c0
    have a1 : i0 < (if isAt s i0 48 = true then i0 + 1 else dgs s i0) ∧ (if isAt s i0 48 = true then i0 + 1 else dgs s i0) ≤ s.size := by
      have := digAt_lt c0'
      have := dgs_lt s i0 c0'
      split <;> omega
    generalize (if isAt s i0 48 = true then i0 + 1 else dgs s i0) = i1 at *
    by_cases c1 : isAt s i1 46 = true ∧ digAt s (i1 + 1) = false
    · rw [if_pos c1] at h; exact absurd h (badAt_ne s (i1 + 1))
    · rw [if_neg c1] at h ⊢
      have a2 : i1 ≤ (if isAt s i1 46 = true then dgs s (i1 + 1) else i1) ∧ (if isAt s i1 46 = true then dgs s (i1 + 1) else i1) ≤ s.size := by
        split
        · rename_i hd
          have := dgs_le s (i1 + 1) (by have := (isAt_lt hd).1; omega)
          omega
        · omega
      generalize (if isAt s i1 46 = true then dgs s (i1 + 1) else i1) = i2 at *
      by_cases c2 : isAt s i2 101 = true ∨ isAt s i2 69 = true
      · rw [if_pos c2] at h ⊢
        have a3 : i2 < (if isAt s (i2 + 1) 43 = true ∨ isAt s (i2 + 1) 45 = true then i2 + 2 else i2 + 1) := by split <;> omega
        generalize (if isAt s (i2 + 1) 43 = true ∨ isAt s (i2 + 1) 45 = true then i2 + 2 else i2 + 1) = i3 at *
        by_cases c3 : digAt s i3 = false
        · rw [if_pos c3] at h; exact absurd h (badAt_ne s i3)
        · rw [if_neg c3]
          have := dgs_lt s i3 (by simpa using c3)
          exact ⟨_, rfl, by omega, by omega⟩
      · rw [if_neg c2]
        exact ⟨i2, rfl, by omega, by omega⟩

/-- A reader of values ends behind its place, in the text. -/
def Ends (s : ByteArray) (val : Nat → JV × Int × Int) : Prop := ∀ i, (val i).2.2 = 0 → ∃ j : Nat, (val i).2.1 = j ∧ i < j ∧ j ≤ s.size
theorem arrK_range (s : ByteArray) (val : Nat → JV × Int × Int) (hv : Ends s val) : ∀ (k i : Nat) (acc : List JV), i ≤ s.size → s.size + 1 ≤ i + k → (arrK s val k i acc).2.2 = 0 → ∃ j : Nat, (arrK s val k i acc).2.1 = j ∧ i < j ∧ j ≤ s.size
  | 0, i, acc, h1, h2, _ => by omega
  | k + 1, i, acc, h1, h2, h => by
    unfold arrK at h ⊢
    simp only at h ⊢
    have hs := spc_le s i h1
    by_cases c0 : (val (spc s i)).2.2 ≠ 0
    · rw [if_pos c0] at h; exact absurd h c0
    · rw [if_neg c0] at h ⊢
      obtain ⟨p, e1, e2, e3⟩ := hv _ (Decidable.of_not_not c0)
      rw [e1] at h ⊢
      simp only [Int.toNat_natCast] at h ⊢
      have hs2 := spc_le s p e3
      by_cases c1 : isAt s (spc s p) 93 = true
      · rw [if_pos c1]
        have := (isAt_lt c1).1
        exact ⟨spc s p + 1, by simp, by omega, by omega⟩
      · rw [if_neg c1] at h ⊢
        by_cases c2 : isAt s (spc s p) 44 = true
        · rw [if_pos c2] at h ⊢
          have := (isAt_lt c2).1
          obtain ⟨j, f1, f2, f3⟩ := arrK_range s val hv k (spc s p + 1) _ (by omega) (by omega) h
          exact ⟨j, f1, by omega, f3⟩
        · rw [if_neg c2] at h; exact absurd h (badAt_ne s _)
theorem objK_range (s : ByteArray) (val : Nat → JV × Int × Int) (hv : Ends s val) : ∀ (k i : Nat) (acc : List (ByteArray × JV)), i ≤ s.size → s.size + 1 ≤ i + k → (objK s val k i acc).2.2 = 0 → ∃ j : Nat, (objK s val k i acc).2.1 = j ∧ i < j ∧ j ≤ s.size
  | 0, i, acc, h1, h2, _ => by omega
  | k + 1, i, acc, h1, h2, h => by
    unfold objK at h ⊢
    simp only at h ⊢
    have hs := spc_le s i h1
    by_cases c0 : (strAt s (spc s i)).2.2 ≠ 0
    · rw [if_pos c0] at h; exact absurd h c0
    · rw [if_neg c0] at h ⊢
      obtain ⟨p, e1, e2, e3⟩ := strAt_range s _ (Decidable.of_not_not c0)
      rw [e1] at h ⊢
      simp only [Int.toNat_natCast] at h ⊢
      by_cases c1 : ints (txtOf (strAt s (spc s i)).1) ∈ nms acc
      · rw [if_pos c1] at h; simp at h
      · rw [if_neg c1] at h ⊢
        have hs2 := spc_le s p e3
        by_cases c2 : isAt s (spc s p) 58 = false
        · rw [if_pos c2] at h; exact absurd h (badAt_ne s _)
        · rw [if_neg c2] at h ⊢
          have c2' := (isAt_lt (show isAt s (spc s p) 58 = true by simpa using c2)).1
          have hs3 := spc_le s (spc s p + 1) (by omega)
          by_cases c3 : (val (spc s (spc s p + 1))).2.2 ≠ 0
          · rw [if_pos c3] at h; exact absurd h c3
          · rw [if_neg c3] at h ⊢
            obtain ⟨q, g1, g2, g3⟩ := hv _ (Decidable.of_not_not c3)
            rw [g1] at h ⊢
            simp only [Int.toNat_natCast] at h ⊢
            have hs4 := spc_le s q g3
            by_cases c4 : isAt s (spc s q) 125 = true
            · rw [if_pos c4]
              have := (isAt_lt c4).1
              exact ⟨spc s q + 1, by simp, by omega, by omega⟩
            · rw [if_neg c4] at h ⊢
              by_cases c5 : isAt s (spc s q) 44 = true
              · rw [if_pos c5] at h ⊢
                have := (isAt_lt c5).1
                obtain ⟨j, f1, f2, f3⟩ := objK_range s val hv k (spc s q + 1) _ (by omega) (by omega) h
                exact ⟨j, f1, by omega, f3⟩
              · rw [if_neg c5] at h; exact absurd h (badAt_ne s _)
theorem word_ends {s : ByteArray} {l : List Int} {i : Nat} {x : JV} (hl : l ≠ []) (h : (if (wordAt s l i).2 = 0 then (x, wordAt s l i) else (jz, wordAt s l i)).2.2 = 0) : ∃ j : Nat, (if (wordAt s l i).2 = 0 then (x, wordAt s l i) else (jz, wordAt s l i)).2.1 = j ∧ i < j ∧ j ≤ s.size := by
  have hp : 0 < l.length := List.length_pos_iff.2 hl
  by_cases c : (wordAt s l i).2 = 0
  · rw [if_pos c]
    obtain ⟨e1, e2⟩ := wordAt_range s l i hl c
    exact ⟨_, e1, by omega, e2⟩
  · rw [if_neg c] at h; exact absurd h c
theorem valAt_ends (s : ByteArray) : ∀ L, Ends s (valAt s L)
  | 0, i, h => by
    unfold valAt at h
    (repeat' split at h) <;> simp at h
  | L + 1, i, h => by
    have IH := valAt_ends s L
    unfold valAt at h ⊢
    by_cases c0 : s.size ≤ i
    · rw [if_pos c0] at h; simp at h
    rw [if_neg c0] at h ⊢
    by_cases c1 : starter (bt s i) = false
    · rw [if_pos c1] at h; simp at h
    rw [if_neg c1] at h ⊢
    by_cases c2 : bt s i = 110
    · rw [if_pos c2] at h ⊢; exact word_ends (by simp) h
    rw [if_neg c2] at h ⊢
    by_cases c3 : bt s i = 102
    · rw [if_pos c3] at h ⊢; exact word_ends (by simp) h
    rw [if_neg c3] at h ⊢
    by_cases c4 : bt s i = 116
    · rw [if_pos c4] at h ⊢; exact word_ends (by simp) h
    rw [if_neg c4] at h ⊢
    by_cases c5 : bt s i = 34
    · rw [if_pos c5] at h ⊢
      by_cases d : (strAt s i).2.2 = 0
      · rw [if_pos d]; exact strAt_range s i d
      · rw [if_neg d] at h; exact absurd h d
    rw [if_neg c5] at h ⊢
    by_cases c6 : bt s i = 91
    · rw [if_pos c6] at h ⊢
      have hs := spc_le s (i + 1) (by omega)
      by_cases d : isAt s (spc s (i + 1)) 93 = true
      · rw [if_pos d]
        have := (isAt_lt d).1
        exact ⟨spc s (i + 1) + 1, by simp, by omega, by omega⟩
      · rw [if_neg d] at h ⊢
        obtain ⟨j, f1, f2, f3⟩ := arrK_range s (valAt s L) IH s.size (spc s (i + 1)) [] (by omega) (by omega) h
        exact ⟨j, f1, by omega, f3⟩
    rw [if_neg c6] at h ⊢
    by_cases c7 : bt s i = 123
    · rw [if_pos c7] at h ⊢
      have hs := spc_le s (i + 1) (by omega)
      by_cases d : isAt s (spc s (i + 1)) 125 = true
      · rw [if_pos d]
        have := (isAt_lt d).1
        exact ⟨spc s (i + 1) + 1, by simp, by omega, by omega⟩
      · rw [if_neg d] at h ⊢
        obtain ⟨j, f1, f2, f3⟩ := objK_range s (valAt s L) IH s.size (spc s (i + 1)) [] (by omega) (by omega) h
        exact ⟨j, f1, by omega, f3⟩
    rw [if_neg c7] at h ⊢
    by_cases d : (numAt s i).2 = 0
    · rw [if_pos d]; exact numAt_range s i d
    · rw [if_neg d] at h; exact absurd h d
end
end Go.Proofs.YtpdpgppaoipnlaaDoor

