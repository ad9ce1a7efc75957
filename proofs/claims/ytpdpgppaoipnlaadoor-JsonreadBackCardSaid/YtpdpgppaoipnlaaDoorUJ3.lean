/- What the claim uses of the text J3. -/
import Derived.Test.YtpdpgppaoipnlaaDoorUJ2
import Derived.Test.YtpdpgppaoipnlaaDoorUPAllx0
import Derived.Deep.RegionHeld3
import Derived.Deep.RegionLaw
import Derived.Deep.DrawnRows
import Derived.Maps.Own
import Derived.Maps.OwnOps
import Derived.Maps.Keyed
import Derived.Maps.Views
set_option linter.unusedVariables false
set_option linter.unusedSimpArgs false
namespace Go.Proofs.YtpdpgppaoipnlaaDoor
section
open Go.RowKit Go.PlainAid
open Go.Proofs.YtpdpgppaoipnlaaDoorW.PrintWords hiding bt
open Go.Proofs.YtpdpgppaoipnlaaDoorW.PrintMore

theorem jdM_leaf (n : Nat) (w : World) (base : Nat) (ok : Nat → Prop) (k : Int) (t : ByteArray) : (jd (n + 1)).M w base ok ⟨k, t, [], []⟩ [.int .i64 k, .string t, .slice none 0 0, .slice none 0 0] :=
  ⟨[_], [_, _, _], rfl, rfl, [_], [_, _], rfl, rfl, [_], [_], rfl, ⟨_, rfl, Kd.R_nil _ _ _ _ _⟩, ⟨_, rfl, Kd.R_nil _ _ _ _ _⟩⟩
theorem jdM_arr {n : Nat} {w : World} {base : Nat} {ok : Nat → Prop} (k : Int) (t : ByteArray) {v : Value} {xs : List JV} (h : (jd n).R 26 w base ok v xs) : (jd (n + 1)).M w base ok ⟨k, t, xs, []⟩ [.int .i64 k, .string t, v, .slice none 0 0] :=
  ⟨[_], [_, _, _], rfl, rfl, [_], [_, _], rfl, rfl, [_], [_], rfl, ⟨_, rfl, h⟩, ⟨_, rfl, Kd.R_nil _ _ _ _ _⟩⟩
theorem jdM_obj {n : Nat} {w : World} {base : Nat} {ok : Nat → Prop} (k : Int) (t : ByteArray) {v : Value} {xs : List (ByteArray × JV)} (h : (jm n).R 50 w base ok v xs) : (jd (n + 1)).M w base ok ⟨k, t, [], xs⟩ [.int .i64 k, .string t, .slice none 0 0, v] :=
  ⟨[_], [_, _, _], rfl, rfl, [_], [_, _], rfl, rfl, [_], [_], rfl, ⟨_, rfl, Kd.R_nil _ _ _ _ _⟩, ⟨_, rfl, h⟩⟩

theorem jdM_cells {n : Nat} {w : World} {base : Nat} {ok : Nat → Prop} {x : JV} {cs : List Value} (h : (jd n).M w base ok x cs) : ∃ A2 c2 A3 c3, cs = jcells x A2 c2 A3 c3 := by
  obtain ⟨m, rfl⟩ := jd_cells ((jd n).K_of_M h)
  obtain ⟨A2, c2, A3, c3, e, _⟩ := jd_open ((jd (m + 1)).K_of_M h)
  exact ⟨A2, c2, A3, c3, e⟩
theorem info_v : (Tryd.prog.info? 26).map (fun i => (i.zero, i.size, i.bytes)) = some (some (.agg #[.int .i64 0, .string ⟨#[]⟩, .slice none 0 0, .slice none 0 0]), 4, 72) := by kernel_rfl
/-- A call that returns a value. -/
def RetV (b : Nat) (s : ByteArray) (n : Nat) (x : JV) (j : Nat) (w : World) (e : Ending) (w' : World) : Prop :=
  ∃ cs : List Value, Ret b s (.agg cs.toArray) j w e w' ∧ Hid ((jd n).M w' w.heap.size (fun k => w.heap.size ≤ k) x cs)
/-- What the reader makes of a value's text: (value, place, 0), or (_, place, number). -/
def ValIs (E : Nat → Addr) (b : Nat) (s : ByteArray) (n : Nat) (r : JV × Int × Int) (w : World) (e : Ending) (w' : World) : Prop :=
  (r.2.2 = 0 ∧ RetV b s n r.1 r.2.1.toNat w e w') ∨ (r.2.2 ≠ 0 ∧ Thr E b s r.2.1 r.2.2 w e w')
theorem ValIs.good {E : Nat → Addr} {b n : Nat} {s : ByteArray} {j : Nat} {x : JV} {r : JV × Int × Int} {w w' : World} {e : Ending} (h : r = (x, (j : Int), 0)) (hr : RetV b s n x j w e w') : ValIs E b s n r w e w' := .inl (by rw [h]; exact ⟨rfl, hr⟩)
theorem ValIs.bad {E : Nat → Addr} {b n : Nat} {s : ByteArray} {x : JV} {p c : Int} {r : JV × Int × Int} {w w' : World} {e : Ending} (h : r = (x, p, c)) (hn : c ≠ 0) (hr : Thr E b s p c w e w') : ValIs E b s n r w e w' := .inr (by rw [h]; exact ⟨hn, hr⟩)
/-- The reader reads values of so many levels. -/
def ValAll (E : Nat → Addr) (L : Nat) : Prop := ∀ (b : Nat) (s : ByteArray) (i : Nat) (w : World) (lev : Int), lev = 33 - L → s.size ≤ 100000 → Sents E w → Rd b s i w → i ≤ s.size →
  Calls Tryd.prog 52 #[.pointer (some ⟨b, 0, none⟩), .int .i64 lev] w (ValIs E b s L (valAt s L i) w)

theorem value_ok {E : Nat → Addr} {L : Nat} (hv : ValAll E L) (b : Nat) (s : ByteArray) (i : Nat) (w : World) (lev : Int) (hlev : lev = 33 - L) (hl : s.size ≤ 100000) (hs : Sents E w) (hr : Rd b s i w) (hi : i ≤ s.size) (h0 : (valAt s L i).2.2 = 0) :
    Calls Tryd.prog 52 #[.pointer (some ⟨b, 0, none⟩), .int .i64 lev] w fun e w' => ∃ A2 c2 A3 c3, Ret b s (.agg #[.int .i64 (valAt s L i).1.kind, .string (valAt s L i).1.text, .slice A2 (valAt s L i).1.list.length c2, .slice A3 (valAt s L i).1.mem.length c3]) (valAt s L i).2.1.toNat w e w' ∧ Hid ((jd L).M w' w.heap.size (fun k => w.heap.size ≤ k) (valAt s L i).1 (jcells (valAt s L i).1 A2 c2 A3 c3)) := by
  refine (hv b s i w lev hlev hl hs hr hi).mono ?_
  intro e w' ht
  obtain ⟨_, cs, h1, h2⟩ := Or.resolve_right ht (fun h => h.1 h0)
  obtain ⟨A2, c2, A3, c3, rfl⟩ := jdM_cells h2.out
  exact ⟨A2, c2, A3, c3, h1, h2⟩
theorem value_bad {E : Nat → Addr} {L : Nat} (hv : ValAll E L) (b : Nat) (s : ByteArray) (i : Nat) (w : World) (lev : Int) (hlev : lev = 33 - L) (hl : s.size ≤ 100000) (hs : Sents E w) (hr : Rd b s i w) (hi : i ≤ s.size) (h0 : (valAt s L i).2.2 ≠ 0) :
    Calls Tryd.prog 52 #[.pointer (some ⟨b, 0, none⟩), .int .i64 lev] w (Thr E b s (valAt s L i).2.1 (valAt s L i).2.2 w) := by
  refine (hv b s i w lev hlev hl hs hr hi).mono ?_
  intro e w' ht
  exact (Or.resolve_left ht (fun h => h0 h.1)).2
theorem Sents.heap' {E : Nat → Addr} {w w' : World} (h : Sents E w) (hh : w'.heap = w.heap) (h1 : w'.os = w.os := by rfl) (h2 : w'.tape = w.tape := by rfl) (h3 : w'.output = w.output := by rfl) : Sents E w' := h.below ⟨h1, h2, h3, by rw [hh]; exact Nat.le_refl _, fun k _ => by rw [hh]⟩
def arrAt (s : ByteArray) (L i : Nat) : JV × Int × Int := if isAt s (spc s (i + 1)) 93 = true then (⟨5, ⟨#[]⟩, [], []⟩, spc s (i + 1) + 1, 0) else arrK s (valAt s L) s.size (spc s (i + 1)) []

theorem leafA_size (k : Int) (t : ByteArray) : (leafA k t).size = 4 := rfl
theorem any_is (b : Nat) (s : ByteArray) (i : Nat) (t : ByteArray) (c : Int) (x : Bool) (w : World) (hl : s.size ≤ 1000000000) (hr : Rd b s i w) (ht : ints t = [c]) (hx : isAt s i c = x) :
    Calls Tryd.prog 106 #[.pointer (some ⟨b, 0, none⟩), .string t] w (Ret b s (.bool x) (if x = true then i + 1 else i) w) := by
  have := any_any b s i t w hl hr
  rw [ht, anyAt_one, hx] at this
  exact this

/-- What an array's or an object's walk knows of its own variables: n the result, n + 1 the value that is made. -/
structure Own2 (n k : Nat) (v2 v3 : Value) (w : World) : Prop where
  r : VRow n (leafA 0 ⟨#[]⟩) w
  v : VRow (n + 1) #[.int .i64 k, .string ⟨#[]⟩, v2, v3] w
theorem Own2.kept {n k b : Nat} {v2 v3 : Value} {w w' : World} (h : Own2 n k v2 v3 w) (hg : w.grownBy w' (some b)) (hb : b < n) : Own2 n k v2 v3 w' := ⟨h.r.kept hg (by simp; omega), h.v.kept hg (by simp; omega)⟩
theorem VRow.cell {b : Nat} {cs : Array Value} {w : World} (h : VRow b cs w) (o : Nat) (v : Value) (hv : cs[o]? = some v) : w.cell? ⟨b, o, none⟩ = some v := by rw [Lib.cell_of_heap h]; exact hv
theorem VRow.frozen {b : Nat} {cs : Array Value} {w : World} (h : VRow b cs w) (o : Nat) : w.frozen? ⟨b, o, none⟩ = false := Lib.frozen_of_heap h o
theorem own_start (b i k : Nat) (s : ByteArray) {E : Nat → Addr} (w : World) (hs : Sents E w) (hr : Rd b s i w) :
    Rd b s i ((w.alloc (.cells (leafA 0 ⟨#[]⟩) 26)).alloc (.cells (leafA k ⟨#[]⟩) 26)) ∧ Sents E ((w.alloc (.cells (leafA 0 ⟨#[]⟩) 26)).alloc (.cells (leafA k ⟨#[]⟩) 26)) ∧
    Own2 w.heap.size k (.slice none 0 0) (.slice none 0 0) ((w.alloc (.cells (leafA 0 ⟨#[]⟩) 26)).alloc (.cells (leafA k ⟨#[]⟩) 26)) ∧ w.grownBy ((w.alloc (.cells (leafA 0 ⟨#[]⟩) 26)).alloc (.cells (leafA k ⟨#[]⟩) 26)) (some b) ∧
    w.heap.size + 2 ≤ ((w.alloc (.cells (leafA 0 ⟨#[]⟩) 26)).alloc (.cells (leafA k ⟨#[]⟩) 26)).heap.size := by
  have hb : Below w.heap.size w ((w.alloc (.cells (leafA 0 ⟨#[]⟩) 26)).alloc (.cells (leafA k ⟨#[]⟩) 26)) := ((Below.refl _ _).alloc (Nat.le_refl _) _).alloc (by simp) _
  refine ⟨hr.below hb, hs.below hb, ⟨?_, ?_⟩, grown_below hb _, by simp⟩
  · exact (Go.heap_alloc_old _ _ (by simp)).trans (Go.heap_alloc_new w _)
  · have := VRow.new (w.alloc (.cells (leafA 0 ⟨#[]⟩) 26)) (leafA k ⟨#[]⟩)
    simp at this
    exact this

theorem VRow.set2 {b : Nat} {a0 a1 a2 a3 : Value} {w : World} (h : VRow b #[a0, a1, a2, a3] w) (v : Value) : VRow b #[a0, a1, v, a3] (w.setCell ⟨b, 2, none⟩ v) := by
  unfold VRow at *
  simp [World.setCell, Array.getElem?_modify, h]
theorem VRow.set3 {b : Nat} {a0 a1 a2 a3 : Value} {w : World} (h : VRow b #[a0, a1, a2, a3] w) (v : Value) : VRow b #[a0, a1, a2, v] (w.setCell ⟨b, 3, none⟩ v) := by
  unfold VRow at *
  simp [World.setCell, Array.getElem?_modify, h]
theorem VRow.far {b : Nat} {cs : Array Value} {w : World} (h : VRow b cs w) {c o : Nat} (hc : c ≠ b) (v : Value) : VRow b cs (w.setCell ⟨c, o, none⟩ v) := by
  unfold VRow at *
  simp [World.setCell, Array.getElem?_modify, h, hc]
theorem Rd.far {b i : Nat} {s : ByteArray} {w : World} (h : Rd b s i w) {c o : Nat} (hc : c ≠ b) (v : Value) : Rd b s i (w.setCell ⟨c, o, none⟩ v) := by
  unfold Rd at *
  simp [World.setCell, Array.getElem?_modify, h, hc]
theorem grown_setNew {w W : World} {b : Nat} (hg : w.grownBy W (some b)) {c o : Nat} (hc : w.heap.size ≤ c) (v : Value) : w.grownBy (W.setCell ⟨c, o, none⟩ v) (some b) :=
  ⟨hg.os, hg.tape, hg.output, by have := hg.size; simpa [World.setCell] using this, fun k hk hne => (Below.heap_setCell _ _ _ _ (by simp; omega)).trans (hg.block k hk hne)⟩
theorem below_less {B C : Nat} {w w' : World} (h : Below C w w') (hBC : B ≤ C) : Below B w w' := ⟨h.os, h.tape, h.output, h.size, fun k hk => h.block k (by omega)⟩
theorem setRow_other (w : World) (g : Nat) (ds : Array Value) (k : Nat) (h : k ≠ g) : (w.setRow g ds).heap[k]? = w.heap[k]? := by
  simp only [World.setRow]
  rw [Array.getElem?_modify, if_neg (fun e => h e.symm)]
/-- An element was appended, and stored. -/
theorem elem_done {b p L : Nat} {s : ByteArray} {w w5 w7 : World} {lv v : Value} {xs : List JV} (hbn : b < w.heap.size) (hR : Rd b s p w5) (hO : Own2 w.heap.size 5 lv (.slice none 0 0) w5) (hG : w.grownBy w5 (some b)) (hN : w.heap.size + 2 ≤ w5.heap.size) (hB : Below (w.heap.size + 2) w5 w7) (hL : (jd L).R 26 w7 (w.heap.size + 2) (fun k => w.heap.size + 2 ≤ k) v xs) :
    Rd b s p (w7.setCell ⟨w.heap.size + 1, 2, none⟩ v) ∧ Own2 w.heap.size 5 v (.slice none 0 0) (w7.setCell ⟨w.heap.size + 1, 2, none⟩ v) ∧ w.grownBy (w7.setCell ⟨w.heap.size + 1, 2, none⟩ v) (some b) ∧ w.heap.size + 2 ≤ (w7.setCell ⟨w.heap.size + 1, 2, none⟩ v).heap.size ∧ (jd L).R 26 (w7.setCell ⟨w.heap.size + 1, 2, none⟩ v) (w.heap.size + 2) (fun k => w.heap.size + 2 ≤ k) v xs := by
  have h1 : VRow w.heap.size (leafA 0 ⟨#[]⟩) w7 := (hB.block _ (by omega)).trans hO.r
  have h2 : VRow (w.heap.size + 1) #[.int .i64 5, .string ⟨#[]⟩, lv, .slice none 0 0] w7 := (hB.block _ (by omega)).trans hO.v
  have h3 : Rd b s p w7 := (hB.block _ (by omega)).trans hR
  refine ⟨h3.far (by omega) _, ⟨h1.far (by omega) _, h2.set2 _⟩, grown_setNew (grown_base hG (below_less hB (by omega))) (by omega) _, ?_, Kd.R_far hL (fun k hk => by simp; omega) _⟩
  have := hB.size
  simp [World.setCell]; omega

theorem wpl_load_arr {ops : Array Oper} {rest : List Oper} {a : Act} {w : World} {Q : Exit → Act → World → Prop} {dst : Option Tmp} {x : Operand} {ty : TypeId} {pos : String} {after : Array Edge} {b : Nat} {a0 a1 a2 a3 : Value}
    (H : VRow b #[a0, a1, a2, a3] w) (hx : a.eval x = .pointer (some ⟨b, 0, none⟩)) (h : wpList Tryd.prog ops Q rest (a.put dst (.agg #[a0, a1, a2, a3])) w) :
    wpList Tryd.prog ops Q ({ dst := dst, op := .load 26 x, type := ty, pos := pos, after := after, guard := none } :: rest) a w := wpl_load_val H rfl hx h
theorem wpl_store_row4 {ops : Array Oper} {rest : List Oper} {a : Act} {w : World} {Q : Exit → Act → World → Prop} {dst : Option Tmp} {x y : Operand} {ty : TypeId} {pos : String} {after : Array Edge} {b : Nat} {k0 k : Int} {t0 t : ByteArray} {A2 A3 : Option Addr} {n2 c2 n3 c3 : Nat}
    (H : VRow b (leafA k0 t0) w) (hx : a.eval x = .pointer (some ⟨b, 0, none⟩)) (hy : a.eval y = .agg #[.int .i64 k, .string t, .slice A2 n2 c2, .slice A3 n3 c3]) (h : wpList Tryd.prog ops Q rest (a.put dst undef) (w.setRow b #[.int .i64 k, .string t, .slice A2 n2 c2, .slice A3 n3 c3])) :
    wpList Tryd.prog ops Q ({ dst := dst, op := .store 26 x y, type := ty, pos := pos, after := after, guard := none } :: rest) a w :=
  wpl_store_val H rfl rfl (by simp [Value.oneCell']) hx hy h

set_option maxHeartbeats 4000000 in
set_option maxRecDepth 100000 in
theorem array_any {E : Nat → Addr} (b : Nat) (s : ByteArray) (L i : Nat) (w : World) (lev : Int) (hvp : ∀ i, (valAt s L i).2.2 = 0 → ∃ j : Nat, (valAt s L i).2.1 = j ∧ i < j ∧ j ≤ s.size) (hL : L ≤ 31) (hlev : lev = 32 - L) (hv : ValAll E L) (hl : s.size ≤ 100000) (hs : Sents E w) (hr : Rd b s i w) (h : isAt s i 91 = true) :
    Calls Tryd.prog 86 #[.pointer (some ⟨b, 0, none⟩), .int .i64 lev] w (ValIs E b s (L + 1) (arrAt s L i) w) := by
  have hbn := hr.lt
  have HR0 := Lib.hid hr
  have HS := Lib.hid hs
  have HH := Lib.hid h
  have HVA := Lib.hid hv
  clear hr hs h hv
  go_enter Tryd.func86, Tryd.ntmps86
  have H0 := Lib.hid (own_start b i 5 s w HS.out HR0.out)
  go_wp2_with fail
  refine (take_ok b s i 91 _ (by omega) H0.out.1 HH.out).mono ?_
  rintro e w1 ⟨rfl, HR1, HG1⟩
  have HO1 := Lib.hid (H0.out.2.2.1.kept HG1.out hbn)
  have HG2 := Lib.hid (H0.out.2.2.2.1.trans HG1.out)
  have HN1 : Hid (w.heap.size + 2 ≤ w1.heap.size) := Nat.le_trans H0.out.2.2.2.2 HG1.out.size
  clear H0 HG1
  go_wp2_with fail
  refine (space_any b s (i + 1) _ (by omega) HR1.out).mono ?_
  rintro e w2 ⟨rfl, HR2, HG1⟩
  have HO2 := Lib.hid (HO1.out.kept HG1.out hbn)
  have HG3 := Lib.hid (HG2.out.trans HG1.out)
  have HN2 : Hid (w.heap.size + 2 ≤ w2.heap.size) := Nat.le_trans HN1.out HG1.out.size
  clear HO1 HG2 HN1 HG1 HR1
  obtain ⟨z, Hz⟩ : ∃ z, Hid (isAt s (spc s (i + 1)) 93 = z) := ⟨_, rfl⟩
  go_wp2_with fail
  refine (any_is b s (spc s (i + 1)) ⟨#[93]⟩ 93 z _ (by omega) HR2.out rfl Hz.out).mono ?_
  rintro e w3 ⟨rfl, HR3, HG1⟩
  have HO3 := Lib.hid (HO2.out.kept HG1.out hbn)
  have HG4 := Lib.hid (HG3.out.trans HG1.out)
  have HN3 : Hid (w.heap.size + 2 ≤ w3.heap.size) := Nat.le_trans HN2.out HG1.out.size
  clear HO2 HG3 HN2 HG1 HR2
  cases z with
  | true =>
    have HA : Hid (arrAt s L i = (⟨5, ⟨#[]⟩, [], []⟩, ((spc s (i + 1) + 1 : Nat) : Int), 0)) := by show _ = _; unfold arrAt; rw [if_pos Hz.out]; simp
    have hv5 : VRow (w.heap.size + 1) (leafA 5 ⟨#[]⟩) w3 := HO3.out.v
    have hv0 := HO3.out.r
    go_wp2_with (first | ((with_reducible refine wpl_load_val hv5 (leafA_size _ _) ?hx ?_); (case hx => rfl)) | ((with_reducible refine wpl_store_leaf (k := 5) (t := ⟨#[]⟩) hv0 ?hx ?hy ?_); (case hx => rfl); (case hy => rfl)))
    (try simp only [Exit.inBlock, Exit.then])
    refine bodyPost_ret (v := .agg (leafA 5 ⟨#[]⟩)) ?_ rfl ?_
    · exact results_val rfl _ _ _ _ rfl HO3.out.r.set rfl
    · have HR4 := HR3.out
      rw [if_pos trivial] at HR4
      exact ValIs.good HA.out ⟨[_, _, _, _], ⟨rfl, HR4.setRow (by omega) _, grown_setRow HG4.out (Nat.le_refl _) _⟩, jdM_leaf _ _ _ _ _ _⟩
  | false =>
    have HA : Hid (arrAt s L i = arrK s (valAt s L) s.size (spc s (i + 1)) []) := by show _ = _; unfold arrAt; rw [if_neg (by rw [Hz.out]; simp)]
    have HR4 : Hid (Rd b s (spc s (i + 1)) w3) := by have := HR3.out; rw [if_neg (by simp)] at this; exact this
    have HP := Lib.hid hvp
    have hi1 := (isAt_lt HH.out).1
    have HQ : Hid (1 ≤ spc s (i + 1) ∧ spc s (i + 1) ≤ s.size) := by have := spc_le s (i + 1) (by omega); exact ⟨by omega, by omega⟩
    clear HR3 hvp
    go_wp2_with fail
    go_loopg [] s.size (fun k w' => ∃ (acc : List JV) (j : Nat) (lv : Value), Hid (j ≤ s.size ∧ s.size + 1 ≤ j + k ∧ acc.length + 1 ≤ j) ∧ Hid (arrK s (valAt s L) k j acc = arrAt s L i) ∧ Hid (Rd b s j w') ∧ Hid (w.grownBy w' (some b)) ∧ Hid (Own2 w.heap.size 5 lv (.slice none 0 0) w') ∧ Hid ((jd L).R 26 w' (w.heap.size + 2) (fun k => w.heap.size + 2 ≤ k) lv acc) ∧ Hid (w.heap.size + 2 ≤ w'.heap.size))
    case atStart => exact ⟨[], spc s (i + 1), _, ⟨HQ.out.2, by have := HQ.out; omega, by have := HQ.out; simp; omega⟩, HA.out.symm, HR4.out, HG4.out, HO3.out, Kd.R_nil _ _ _ _ _, HN3.out⟩
    case round =>
      obtain ⟨acc, j, lv, HI, HD, HR, HG, HO, HL, HN⟩ := hrel
      clear HO3 HG4 HN3 HR4 HQ HA
      obtain ⟨k1, rfl⟩ : ∃ k1, gk = k1 + 1 := ⟨gk - 1, by have := HI.out; omega⟩
      go_wp2_with fail
      refine (space_any b s j _ (by omega) HR.out).mono ?_
      rintro e w4 ⟨rfl, HR4, HG4⟩
      have HO4 := Lib.hid (HO.out.kept HG4.out hbn)
      have HL4 := Lib.hid (Kd.R_grown HL.out HG4.out (fun k hk e => by injection e with e; omega))
      have HG5 := Lib.hid (HG.out.trans HG4.out)
      have HN4 : Hid (w.heap.size + 2 ≤ w4.heap.size) := Nat.le_trans HN.out HG4.out.size
      clear HR HO HL HG HN HG4
      have hc2 := HO4.out.v.cell 2 lv rfl
      have hf2 := HO4.out.v.frozen 2
      go_wp2_with fail
      have HS4 := Lib.hid (HS.out.grown HR0.out HG5.out)
      have HW : Hid (IntKind.i64.wrap (32 - (L : Int) + 1) = 33 - L) := by show _ = _; rw [IntKind.wrap_i64]; omega
      have HSP : Hid (spc s j ≤ s.size ∧ j ≤ spc s j) := by have := spc_le s j HI.out.1; exact ⟨this.2, this.1⟩
      have hd := HD.out
      unfold arrK at hd
      dsimp only at hd
      by_cases hv0 : (valAt s L (spc s j)).2.2 = 0
      · rw [if_neg (fun e => e hv0)] at hd
        obtain ⟨p, hp1, hp2, hp3⟩ := HP.out _ hv0
        have HV0 := Lib.hid hv0
        have HJ : Hid ((valAt s L (spc s j)).2.1.toNat = p) := by show _ = _; rw [hp1]; simp
        rw [HJ.out] at hd
        replace HD := Lib.hid hd
        clear hd hv0 hp1
        have HV := Lib.hid (fun (W : World) (h1 : Sents E W) (h2 : Rd b s (spc s j) W) => value_ok HVA.out b s (spc s j) W _ HW.out hl h1 h2 HSP.out.1 HV0.out)
        rw [HJ.out] at HV
        generalize (valAt s L (spc s j)).1 = x at *
        have HOK : Hid (∀ k, w4.heap.size ≤ k → w.heap.size + 2 ≤ k ∧ some k ≠ lv.ownBlock) := fun k hk => ⟨Nat.le_trans HN4.out hk, fun e => by have := Kd.R_lt HL4.out k e.symm; omega⟩
        have HZ : Hid ((Tryd.prog.info? 26).map (fun i => (i.zero, i.size, i.bytes)) = some (some (.agg #[.int .i64 0, .string ⟨#[]⟩, .slice none 0 0, .slice none 0 0]), (jd L).sz, 72)) := by show _ = _; rw [show (jd L).sz = 4 from jsz L]; exact info_v
        have HZ1 : Hid ((Value.agg #[.int .i64 0, .string ⟨#[]⟩, .slice none 0 0, .slice none 0 0]).cells.size = (jd L).sz) := by show _ = _; rw [show (jd L).sz = 4 from jsz L]; rfl
        have HZ2 : Hid (0 < (jd L).sz) := by show _ < _; rw [show (jd L).sz = 4 from jsz L]; omega
        have HLEN : Hid ((acc.length + 1) * 72 ≤ 140737488355328) := by have := HI.out; show _ ≤ _; omega
        have hne : (⟨w.heap.size + 1, 2, none⟩ : Addr).block ≠ b := by simp; omega
        go_region_law
          (first
            | (go_simp; go_at_call 52; refine (HV.out _ (by exact HS4.out.heap' rfl) (by exact HR4.out)).mono ?_; rintro e w5 ⟨A2, c2, A3, c3, ⟨rfl, HR5, HGa⟩, HM5⟩; have HGa0 := Lib.hid (World.grownBy.trans (grown_drewN w4 1 (some b)) HGa.out); have HO5 := Lib.hid (HO4.out.kept HGa0.out hbn); have HL5 := Lib.hid (Kd.R_grown HL4.out HGa0.out (fun k hk e => by injection e with e; omega)); have HG6 := Lib.hid (HG5.out.trans HGa0.out); have HN5 : Hid (w.heap.size + 2 ≤ w5.heap.size) := Nat.le_trans HN4.out HGa0.out.size; have hc5 := HO5.out.v.cell 2 lv rfl; have hc6 : ∀ o, (w5.alloc o).cell? ⟨w.heap.size + 1, 2, none⟩ = some lv := fun o => (World.cell?_alloc_lt w5 o ⟨w.heap.size + 1, 2, none⟩ (by have := HN5.out; simp; omega)).trans hc5; have HM6 : Hid ((jd L).M w5 (w.heap.size + 2) (fun k => w4.heap.size ≤ k) x (jcells x A2 c2 A3 c3)) := (jd L).M_lower HN4.out HM5.out)
            | (refine Kd.R_append_step (jd L) (w0 := w5) (W := w5) (w.heap.size + 2) (by rfl) (.tmp 17) (.tmp 22) 23 26 _ 72 (by rfl) Tryd.underlying23 HZ.out HZ1.out HZ2.out (by omega) lv acc x (jcells x A2 c2 A3 c3) (fun k => w.heap.size + 2 ≤ k) (fun k => w4.heap.size ≤ k) (by rfl) (by rfl) HM6.out HOK.out (fun k hk => Nat.le_trans HN5.out hk) HL5.out (Below.refl _ _) HN5.out HLEN.out ?_; intro v1 w7 ho hb hg7 hat; obtain ⟨A7, cc7, hv1⟩ := Kd.R_slice ho; rw [List.length_append, List.length_singleton] at hv1; subst hv1; have HL7 := Lib.hid ho; have HB7 := Lib.hid hb; have hv7 : VRow (w.heap.size + 1) #[.int .i64 5, .string ⟨#[]⟩, lv, .slice none 0 0] w7 := (hb.block _ (by omega)).trans HO5.out.v; have hc7 := hv7.cell 2 lv rfl; have hf7 := hv7.frozen 2; clear ho hb hg7 hat hv7))
        all_goals
          have H8 := Lib.hid (elem_done hbn HR5.out HO5.out HG6.out HN5.out HB7.out HL7.out)
          clear HR5 HO5 HG6 HN5 HB7 HL7 hc5 hc6 hc7 hf7 HM6 HL5 HGa0 HGa HM5 hc2 hf2
          generalize w7.setCell ⟨w.heap.size + 1, 2, none⟩ (.slice A7 (acc.length + 1) cc7) = w8 at H8 ⊢
          go_wp2_with fail
          refine (space_any b s p _ (by omega) H8.out.1).mono ?_
          rintro e w9 ⟨rfl, HR9, HG9⟩
          have HO9 := Lib.hid (H8.out.2.1.kept HG9.out hbn)
          have HL9 := Lib.hid (Kd.R_grown H8.out.2.2.2.2 HG9.out (fun k hk e => by injection e with e; omega))
          have HG10 := Lib.hid (H8.out.2.2.1.trans HG9.out)
          have HN9 : Hid (w.heap.size + 2 ≤ w9.heap.size) := Nat.le_trans H8.out.2.2.2.1 HG9.out.size
          have HS9 := Lib.hid (HS.out.grown HR0.out HG10.out)
          clear H8 HG9
          obtain ⟨q, Hq⟩ : ∃ q, Hid (spc s p = q) := ⟨_, rfl⟩
          rw [Hq.out] at HR9 HD
          have HQ : Hid (p ≤ q ∧ q ≤ s.size) := by rw [← Hq.out]; exact spc_le s p hp3
          by_cases hq : q < s.size
          · have HPK := Lib.hid (peek_ok b s q w9 (by omega) HR9.out hq)
            go_wp2_with fail
            refine HPK.out.mono ?_
            rintro e w10 ⟨rfl, HR10, HG11⟩
            have HO10 := Lib.hid (HO9.out.kept HG11.out hbn)
            have HL10 := Lib.hid (Kd.R_grown HL9.out HG11.out (fun k hk e => by injection e with e; omega))
            have HG12 := Lib.hid (HG10.out.trans HG11.out)
            have HN10 : Hid (w.heap.size + 2 ≤ w10.heap.size) := Nat.le_trans HN9.out HG11.out.size
            clear HPK HR9 HO9 HL9 HG10 HN9 HS9 HG11
            obtain ⟨z2, Hz2⟩ : ∃ z2, Hid (isAt s q 93 = z2) := ⟨_, rfl⟩
            go_wp2_with fail
            refine (any_is b s q ⟨#[93]⟩ 93 z2 _ (by omega) HR10.out rfl Hz2.out).mono ?_
            rintro e w11 ⟨rfl, HR11, HG11⟩
            have HO11 := Lib.hid (HO10.out.kept HG11.out hbn)
            have HL11 := Lib.hid (Kd.R_grown HL10.out HG11.out (fun k hk e => by injection e with e; omega))
            have HG13 := Lib.hid (HG12.out.trans HG11.out)
            have HN11 : Hid (w.heap.size + 2 ≤ w11.heap.size) := Nat.le_trans HN10.out HG11.out.size
            clear HR10 HO10 HL10 HG12 HN10 HG11
            cases z2 with
            | true =>
              have hd := HD.out
              rw [if_pos Hz2.out] at hd
              have HA : Hid (arrAt s L i = (⟨5, ⟨#[]⟩, acc ++ [x], []⟩, ((q + 1 : Nat) : Int), 0)) := by show _ = _; rw [← hd]; simp
              clear hd
              have hv5 : VRow (w.heap.size + 1) #[.int .i64 5, .string ⟨#[]⟩, .slice A7 (acc.length + 1) cc7, .slice none 0 0] w11 := HO11.out.v
              have hv0 := HO11.out.r
              go_wp2_with (first | ((with_reducible refine wpl_load_arr hv5 ?hx ?_); (case hx => rfl)) | ((with_reducible refine wpl_store_row4 (k := 5) (t := ⟨#[]⟩) (A2 := A7) (n2 := acc.length + 1) (c2 := cc7) (A3 := none) (n3 := 0) (c3 := 0) hv0 ?hx ?hy ?_); (case hx => rfl); (case hy => rfl)))
              (try simp only [Exit.inBlock, Exit.then])
              refine bodyPost_ret (v := .agg #[.int .i64 5, .string ⟨#[]⟩, .slice A7 (acc.length + 1) cc7, .slice none 0 0]) ?_ rfl ?_
              · exact results_val rfl _ _ _ _ rfl HO11.out.r.set rfl
              · have HR12 := HR11.out
                rw [if_pos trivial] at HR12
                refine ValIs.good HA.out ⟨[_, _, _, _], ⟨rfl, HR12.setRow (by omega) _, grown_setRow HG13.out (Nat.le_refl _) _⟩, ?_⟩
                exact jdM_arr 5 ⟨#[]⟩ (Kd.R_lower (Kd.R_mono (Kd.R_step HL11.out (fun k hk _ => setRow_other _ _ _ _ (by omega))) (fun k hk => by omega)) (by omega))
            | false =>
              have HR12 : Hid (Rd b s q w11) := by have := HR11.out; rw [if_neg (by simp)] at this; exact this
              have HS12 := Lib.hid (HS.out.grown HR0.out HG13.out)
              have hd := HD.out
              rw [if_neg (by rw [Hz2.out]; simp)] at hd
              replace HD := Lib.hid hd
              clear hd HR11
              by_cases h44 : isAt s q 44 = true
              · have hd := HD.out
                rw [if_pos h44] at hd
                replace HD := Lib.hid hd
                have HH44 := Lib.hid h44
                clear hd h44
                go_wp2_with fail
                refine (take_ok b s q 44 _ (by omega) HR12.out HH44.out).mono ?_
                rintro e w13 ⟨rfl, HR13, HG14⟩
                have HO13 := Lib.hid (HO11.out.kept HG14.out hbn)
                have HL13 := Lib.hid (Kd.R_grown HL11.out HG14.out (fun k hk e => by injection e with e; omega))
                have HG15 := Lib.hid (HG13.out.trans HG14.out)
                have HN13 : Hid (w.heap.size + 2 ≤ w13.heap.size) := Nat.le_trans HN11.out HG14.out.size
                clear HO11 HL11 HG13 HN11 HG14 HR12 HS12
                go_wp2_with fail
                go_roundg k1
                case measure => omega
                case rel => exact ⟨acc ++ [x], q + 1, _, ⟨by omega, by have := HI.out; have := HQ.out; have := HSP.out; omega, by have := HI.out; have := HQ.out; have := HSP.out; simp; omega⟩, HD.out, HR13.out, HG15.out, HO13.out, HL13.out, HN13.out⟩
              · have hd := HD.out
                rw [if_neg h44] at hd
                have HA : Hid (arrAt s L i = (jz, (badAt s q).1, (badAt s q).2)) := hd.symm
                have HH44 := Lib.hid (Bool.eq_false_iff.2 h44)
                clear hd h44
                go_wp2_with fail
                refine (take_bad (E := E) b s q 44 _ (by omega) HS12.out HR12.out HH44.out).mono ?_
                rintro e w13 ⟨p2, rfl, h1, h2, h3⟩
                exact ⟨rfl, ValIs.bad HA.out (badAt_ne _ _) ⟨p2, rfl, h1, HG13.out.trans h2.out, h3⟩⟩
          · have hd := HD.out
            rw [if_neg (by simp [isAt, hq]), if_neg (by simp [isAt, hq])] at hd
            have HA : Hid (arrAt s L i = (jz, (s.size : Int), 2)) := by show _ = _; rw [← hd]; unfold badAt; rw [if_pos (by omega)]
            clear hd
            have HPK := Lib.hid (peek_end (E := E) b s q w9 (by omega) HS9.out HR9.out (by omega))
            go_wp2_with fail
            refine HPK.out.mono ?_
            rintro e w10 ⟨p2, rfl, h1, h2, h3⟩
            exact ⟨rfl, ValIs.bad HA.out (by omega) ⟨p2, rfl, h1, HG10.out.trans h2.out, h3⟩⟩
      · rw [if_pos hv0] at hd
        have HD2 : Hid (arrAt s L i = (jz, (valAt s L (spc s j)).2.1, (valAt s L (spc s j)).2.2)) := hd.symm
        have HV0 := Lib.hid hv0
        clear hd hv0
        go_region_dies
        all_goals
          refine (value_bad HVA.out b s (spc s j) _ _ (by first | exact HW.out | omega) hl (by exact HS4.out.heap' rfl) (by exact HR4.out) HSP.out.1 HV0.out).mono ?_
          intro e w5 ht
          have HT := Lib.hid ht
          obtain ⟨p, rfl, h1, h2, h3⟩ := ht
          exact ⟨rfl, ValIs.bad HD2.out HV0.out ⟨p, rfl, h1, HG5.out.trans ((grown_drewN _ _ _).trans h2.out), h3⟩⟩
end

section
open Go.RowKit Go.PlainAid
open Go.Proofs.YtpdpgppaoipnlaaDoorW.PrintWords hiding bt
open Go.Proofs.YtpdpgppaoipnlaaDoorW.PrintMore

def objAt (s : ByteArray) (L i : Nat) : JV × Int × Int := if isAt s (spc s (i + 1)) 125 = true then (⟨6, ⟨#[]⟩, [], []⟩, spc s (i + 1) + 1, 0) else objK s (valAt s L) s.size (spc s (i + 1)) []
/-- The reader reads objects of values of so many levels. -/
def ObjAll (E : Nat → Addr) (L : Nat) : Prop := ∀ (b : Nat) (s : ByteArray) (i : Nat) (w : World) (lev : Int), lev = 32 - L → s.size ≤ 100000 → Sents E w → Rd b s i w → isAt s i 123 = true →
  Calls Tryd.prog 87 #[.pointer (some ⟨b, 0, none⟩), .int .i64 lev] w (ValIs E b s (L + 1) (objAt s L i) w)
def starts : ByteArray := ⟨#[110, 102, 116, 34, 91, 123, 45, 48, 49, 50, 51, 52, 53, 54, 55, 56, 57]⟩
theorem starter_in (c : Int) : starter c = true ↔ c ∈ ints starts := by
  have : ints starts = [110, 102, 116, 34, 91, 123, 45, 48, 49, 50, 51, 52, 53, 54, 55, 56, 57] := rfl
  rw [this]
  simp [starter]
  omega
theorem start_index (c : Int) (h0 : 0 ≤ c) (h1 : c ≤ 255) : ∃ v : Int, (∀ w, Calls Tryd.prog 72 #[.string ⟨#[110, 102, 116, 34, 91, 123, 45, 48, 49, 50, 51, 52, 53, 54, 55, 56, 57]⟩, .int .u8 c] w fun e w' => e = .returned (.int .i64 v) ∧ w' = w) ∧ (0 ≤ v ↔ starter c = true) := by
  obtain ⟨v, h, hi⟩ := index_in starts c h0 h1
  exact ⟨v, h, hi.trans (starter_in c).symm⟩

set_option maxHeartbeats 4000000 in
set_option maxRecDepth 100000 in
theorem value_end {E : Nat → Addr} (L b : Nat) (s : ByteArray) (i : Nat) (w : World) (lev : Int) (hl : s.size ≤ 100000) (hs : Sents E w) (hr : Rd b s i w) (hi : s.size ≤ i) :
    Calls Tryd.prog 52 #[.pointer (some ⟨b, 0, none⟩), .int .i64 lev] w (ValIs E b s L (valAt s L i) w) := by
  have HA : Hid (valAt s L i = (jz, (s.size : Int), 2)) := by
    show _ = _
    cases L with
    | zero => unfold valAt; rw [if_pos hi]
    | succ L => unfold valAt; rw [if_pos hi]
  have hb : Below w.heap.size w (w.alloc (.cells (leafA 0 ⟨#[]⟩) 26)) := (Below.refl _ _).alloc (Nat.le_refl _) _
  have HR0 := Lib.hid (hr.below hb)
  have HS0 := Lib.hid (hs.below hb)
  have HG0 := Lib.hid (grown_below hb (some b))
  clear hr hs hb
  go_enter Tryd.func52, Tryd.ntmps52
  go_wp2_with fail
  refine (peek_end (E := E) b s i _ (by omega) HS0.out HR0.out hi).mono ?_
  rintro e w1 ⟨p, rfl, h1, h2, h3⟩
  exact ⟨rfl, ValIs.bad HA.out (by omega) ⟨p, rfl, h1, HG0.out.trans h2.out, h3⟩⟩

set_option maxHeartbeats 4000000 in
set_option maxRecDepth 100000 in
theorem value_not {E : Nat → Addr} (L b : Nat) (s : ByteArray) (i : Nat) (w : World) (lev : Int) (hl : s.size ≤ 100000) (hs : Sents E w) (hr : Rd b s i w) (hi : i < s.size) (h : starter (bt s i) = false) :
    Calls Tryd.prog 52 #[.pointer (some ⟨b, 0, none⟩), .int .i64 lev] w (ValIs E b s L (valAt s L i) w) := by
  have HA : Hid (valAt s L i = (jz, (i : Int), 1)) := by
    show _ = _
    cases L with
    | zero => unfold valAt; rw [if_neg (by omega), if_pos h]
    | succ L => unfold valAt; rw [if_neg (by omega), if_pos h]
  have hb : Below w.heap.size w (w.alloc (.cells (leafA 0 ⟨#[]⟩) 26)) := (Below.refl _ _).alloc (Nat.le_refl _) _
  have HR0 := Lib.hid (hr.below hb)
  have HS0 := Lib.hid (hs.below hb)
  have HG0 := Lib.hid (grown_below hb (some b))
  obtain ⟨v, hv, hvi⟩ := start_index (bt s i) (bt_nonneg _ _) (bt_le _ _)
  have hv0 : v < 0 := by have := mt hvi.1 (by rw [h]; simp); omega
  have HV := Lib.hid hv
  clear hr hs hb hvi hv
  go_enter Tryd.func52, Tryd.ntmps52
  go_wp2_with fail
  refine (peek_ok b s i _ (by omega) HR0.out hi).mono ?_
  rintro e w1 ⟨rfl, HR1, HG1⟩
  have HG2 := Lib.hid (HG0.out.trans HG1.out)
  have c1 := HR1.out.c1
  have g1 := (HS0.out.grown HR0.out HG1.out).c1
  go_wp2_with (go_at_call 72; refine (HV.out _).mono ?_; rintro e w' ⟨rfl, rfl⟩)
  go_region_dies
  all_goals (refine (throw_any _ _ _).mono ?_; rintro e w' ⟨rfl, rfl⟩; exact ⟨rfl, ValIs.bad HA.out (by omega) (thr_new (k := 1) rfl (by omega) (by omega) (HG2.out.trans (grown_drewN _ _ _)) (Rd.drewN HR1.out _))⟩)

set_option maxHeartbeats 4000000 in
set_option maxRecDepth 100000 in
theorem value_deep {E : Nat → Addr} (b : Nat) (s : ByteArray) (i : Nat) (w : World) (hl : s.size ≤ 100000) (hs : Sents E w) (hr : Rd b s i w) (hi : i < s.size) (h : starter (bt s i) = true) :
    Calls Tryd.prog 52 #[.pointer (some ⟨b, 0, none⟩), .int .i64 33] w (ValIs E b s 0 (valAt s 0 i) w) := by
  have HA : Hid (valAt s 0 i = (jz, (i : Int), 9)) := by
    show _ = _
    unfold valAt; rw [if_neg (by omega), if_neg (by rw [h]; simp)]
  have hb : Below w.heap.size w (w.alloc (.cells (leafA 0 ⟨#[]⟩) 26)) := (Below.refl _ _).alloc (Nat.le_refl _) _
  have HR0 := Lib.hid (hr.below hb)
  have HS0 := Lib.hid (hs.below hb)
  have HG0 := Lib.hid (grown_below hb (some b))
  obtain ⟨v, hv, hvi⟩ := start_index (bt s i) (bt_nonneg _ _) (bt_le _ _)
  have hv0 : 0 ≤ v := hvi.2 h
  have HV := Lib.hid hv
  clear hr hs hb hvi hv
  go_enter Tryd.func52, Tryd.ntmps52
  go_wp2_with fail
  refine (peek_ok b s i _ (by omega) HR0.out hi).mono ?_
  rintro e w1 ⟨rfl, HR1, HG1⟩
  have HG2 := Lib.hid (HG0.out.trans HG1.out)
  have c1 := HR1.out.c1
  have g1 := (HS0.out.grown HR0.out HG1.out).c9
  go_wp2_with (go_at_call 72; refine (HV.out _).mono ?_; rintro e w' ⟨rfl, rfl⟩)
  go_region_dies
  all_goals (refine (throw_any _ _ _).mono ?_; rintro e w' ⟨rfl, rfl⟩; exact ⟨rfl, ValIs.bad HA.out (by omega) (thr_new (k := 9) rfl (by omega) (by omega) (HG2.out.trans (grown_drewN _ _ _)) (Rd.drewN HR1.out _))⟩)
theorem value_zero {E : Nat → Addr} : ValAll E 0 := by
  intro b s i w lev hlev hl hs hr hi
  by_cases h : s.size ≤ i
  · exact value_end 0 b s i w lev hl hs hr h
  · cases h2 : starter (bt s i) with
    | false => exact value_not 0 b s i w lev hl hs hr (by omega) h2
    | true => obtain rfl : lev = 33 := by omega
              exact value_deep b s i w hl hs hr (by omega) h2
end

section
open Go.RowKit Go.PlainAid
open Go.Proofs.YtpdpgppaoipnlaaDoorW.PrintWords hiding bt
open Go.Proofs.YtpdpgppaoipnlaaDoorW.PrintMore

theorem valAt_succ (s : ByteArray) (L i : Nat) (hi : i < s.size) (h : starter (bt s i) = true) : valAt s (L + 1) i =
    if bt s i = 110 then (if (wordAt s [110, 117, 108, 108] i).2 = 0 then (⟨0, ⟨#[]⟩, [], []⟩, wordAt s [110, 117, 108, 108] i) else (jz, wordAt s [110, 117, 108, 108] i))
    else if bt s i = 102 then (if (wordAt s [102, 97, 108, 115, 101] i).2 = 0 then (⟨1, ⟨#[]⟩, [], []⟩, wordAt s [102, 97, 108, 115, 101] i) else (jz, wordAt s [102, 97, 108, 115, 101] i))
    else if bt s i = 116 then (if (wordAt s [116, 114, 117, 101] i).2 = 0 then (⟨2, ⟨#[]⟩, [], []⟩, wordAt s [116, 114, 117, 101] i) else (jz, wordAt s [116, 114, 117, 101] i))
    else if bt s i = 34 then (if (strAt s i).2.2 = 0 then (⟨4, txtOf (strAt s i).1, [], []⟩, (strAt s i).2) else (jz, (strAt s i).2))
    else if bt s i = 91 then arrAt s L i
    else if bt s i = 123 then objAt s L i
    else if (numAt s i).2 = 0 then (⟨3, s.extract i (numAt s i).1.toNat, [], []⟩, numAt s i) else (jz, numAt s i) := by
  rw [valAt, if_neg (by omega), if_neg (by rw [h]; simp)]
  rfl
theorem val_setup {E : Nat → Addr} {b i : Nat} {s : ByteArray} {w : World} (hs : Sents E w) (hr : Rd b s i w) :
    Rd b s i (w.alloc (.cells (leafA 0 ⟨#[]⟩) 26)) ∧ Sents E (w.alloc (.cells (leafA 0 ⟨#[]⟩) 26)) ∧ w.grownBy (w.alloc (.cells (leafA 0 ⟨#[]⟩) 26)) (some b) ∧ VRow w.heap.size (leafA 0 ⟨#[]⟩) (w.alloc (.cells (leafA 0 ⟨#[]⟩) 26)) := by
  have hb : Below w.heap.size w (w.alloc (.cells (leafA 0 ⟨#[]⟩) 26)) := (Below.refl _ _).alloc (Nat.le_refl _) _
  exact ⟨hr.below hb, hs.below hb, grown_below hb _, VRow.new w _⟩

set_option maxHeartbeats 4000000 in
set_option maxRecDepth 100000 in
theorem value_null {E : Nat → Addr} (L b : Nat) (s : ByteArray) (i : Nat) (w : World) (lev : Int) (hlev : lev = 32 - L) (hL : L ≤ 31) (hl : s.size ≤ 100000) (hs : Sents E w) (hr : Rd b s i w) (hi : i < s.size) (h : bt s i = 110) :
    Calls Tryd.prog 52 #[.pointer (some ⟨b, 0, none⟩), .int .i64 lev] w (ValIs E b s (L + 1) (valAt s (L + 1) i) w) := by
  have hst : starter (bt s i) = true := by rw [h]; rfl
  have HA : Hid (valAt s (L + 1) i = if (wordAt s (ints ⟨#[110, 117, 108, 108]⟩) i).2 = 0 then (⟨0, ⟨#[]⟩, [], []⟩, wordAt s (ints ⟨#[110, 117, 108, 108]⟩) i) else (jz, wordAt s (ints ⟨#[110, 117, 108, 108]⟩) i)) := by
    show _ = _
    rw [valAt_succ s L i hi hst, show ints ⟨#[110, 117, 108, 108]⟩ = [110, 117, 108, 108] from rfl]
    rw [if_pos h]
  have hbn := hr.lt
  have H0 := Lib.hid (val_setup hs hr)
  obtain ⟨v, hv, hvi⟩ := start_index (bt s i) (bt_nonneg _ _) (bt_le _ _)
  have hv0 : 0 ≤ v := hvi.2 hst
  rw [h] at hv
  have HV := Lib.hid hv
  have HP := Lib.hid (peek_ok b s i _ (by omega) H0.out.1 hi)
  rw [h] at HP
  clear hr hs hvi hv hst
  go_enter Tryd.func52, Tryd.ntmps52
  go_wp2_with fail
  refine HP.out.mono ?_
  rintro e w1 ⟨rfl, HR1, HG1⟩
  have HG2 := Lib.hid (H0.out.2.2.1.trans HG1.out)
  have HS1 := Lib.hid (H0.out.2.1.grown H0.out.1 HG1.out)
  have HV1 := Lib.hid (H0.out.2.2.2.kept HG1.out (by simp; omega))
  clear H0 HG1 HP
  go_wp2_with (go_at_call 72; refine (HV.out _).mono ?_; rintro e w' ⟨rfl, rfl⟩)
  refine (word_any (E := E) b s ⟨#[110, 117, 108, 108]⟩ 0 i _ (by omega) (by decide) HS1.out HR1.out).mono ?_
  intro e w2 ht
  by_cases h0 : (wordAt s (ints ⟨#[110, 117, 108, 108]⟩) i).2 = 0
  · obtain ⟨rfl, HR2, HG3⟩ := (Or.resolve_right ht (fun h => h.1 h0)).2
    have HW := Lib.hid (wordAt_range s (ints ⟨#[110, 117, 108, 108]⟩) i (by simp [ints]) h0)
    have ha := HA.out
    rw [if_pos h0] at ha
    have HA2 : Hid (valAt s (L + 1) i = (⟨0, ⟨#[]⟩, [], []⟩, (((wordAt s (ints ⟨#[110, 117, 108, 108]⟩) i).1.toNat : Nat) : Int), 0)) := by
      have e1 := HW.out.1
      exact ha.trans (congrArg (Prod.mk _) (Prod.ext (by show _ = ((_ : Nat) : Int); omega) h0))
    have hv2 := HV1.out.kept HG3.out (by simp; omega)
    clear ht h0 ha HA HW
    generalize (wordAt s (ints ⟨#[110, 117, 108, 108]⟩) i).1.toNat = j at *
    go_wp2_with ((with_reducible refine wpl_store_leaf (k := 0) (t := ⟨#[]⟩) hv2 ?hx ?hy ?_); (case hx => rfl); (case hy => rfl))
    (try simp only [Exit.inBlock, Exit.then])
    refine bodyPost_ret (v := .agg (leafA 0 ⟨#[]⟩)) ?_ rfl ?_
    · exact results_val rfl _ _ _ _ rfl hv2.set rfl
    · exact ValIs.good HA2.out ⟨[_, _, _, _], ⟨rfl, HR2.out.setRow (by omega) _, grown_setRow (HG2.out.trans HG3.out) (Nat.le_refl _) _⟩, jdM_leaf _ _ _ _ _ _⟩
  · have ha := HA.out
    rw [if_neg h0] at ha
    replace HA := Lib.hid ha
    have H0' := Lib.hid h0
    obtain ⟨p, rfl, h1, h2, h3⟩ := (Or.resolve_left ht (fun h => h0 h.1)).2
    clear ha h0 ht
    exact ⟨rfl, ValIs.bad HA.out H0'.out ⟨p, rfl, h1, HG2.out.trans h2.out, h3⟩⟩

set_option maxHeartbeats 4000000 in
set_option maxRecDepth 100000 in
theorem value_false {E : Nat → Addr} (L b : Nat) (s : ByteArray) (i : Nat) (w : World) (lev : Int) (hlev : lev = 32 - L) (hL : L ≤ 31) (hl : s.size ≤ 100000) (hs : Sents E w) (hr : Rd b s i w) (hi : i < s.size) (h : bt s i = 102) :
    Calls Tryd.prog 52 #[.pointer (some ⟨b, 0, none⟩), .int .i64 lev] w (ValIs E b s (L + 1) (valAt s (L + 1) i) w) := by
  have hst : starter (bt s i) = true := by rw [h]; rfl
  have HA : Hid (valAt s (L + 1) i = if (wordAt s (ints ⟨#[102, 97, 108, 115, 101]⟩) i).2 = 0 then (⟨1, ⟨#[]⟩, [], []⟩, wordAt s (ints ⟨#[102, 97, 108, 115, 101]⟩) i) else (jz, wordAt s (ints ⟨#[102, 97, 108, 115, 101]⟩) i)) := by
    show _ = _
    rw [valAt_succ s L i hi hst, show ints ⟨#[102, 97, 108, 115, 101]⟩ = [102, 97, 108, 115, 101] from rfl]
    rw [if_neg (by omega), if_pos h]
  have hbn := hr.lt
  have H0 := Lib.hid (val_setup hs hr)
  obtain ⟨v, hv, hvi⟩ := start_index (bt s i) (bt_nonneg _ _) (bt_le _ _)
  have hv0 : 0 ≤ v := hvi.2 hst
  rw [h] at hv
  have HV := Lib.hid hv
  have HP := Lib.hid (peek_ok b s i _ (by omega) H0.out.1 hi)
  rw [h] at HP
  clear hr hs hvi hv hst
  go_enter Tryd.func52, Tryd.ntmps52
  go_wp2_with fail
  refine HP.out.mono ?_
  rintro e w1 ⟨rfl, HR1, HG1⟩
  have HG2 := Lib.hid (H0.out.2.2.1.trans HG1.out)
  have HS1 := Lib.hid (H0.out.2.1.grown H0.out.1 HG1.out)
  have HV1 := Lib.hid (H0.out.2.2.2.kept HG1.out (by simp; omega))
  clear H0 HG1 HP
  go_wp2_with (go_at_call 72; refine (HV.out _).mono ?_; rintro e w' ⟨rfl, rfl⟩)
  refine (word_any (E := E) b s ⟨#[102, 97, 108, 115, 101]⟩ 1 i _ (by omega) (by decide) HS1.out HR1.out).mono ?_
  intro e w2 ht
  by_cases h0 : (wordAt s (ints ⟨#[102, 97, 108, 115, 101]⟩) i).2 = 0
  · obtain ⟨rfl, HR2, HG3⟩ := (Or.resolve_right ht (fun h => h.1 h0)).2
    have HW := Lib.hid (wordAt_range s (ints ⟨#[102, 97, 108, 115, 101]⟩) i (by simp [ints]) h0)
    have ha := HA.out
    rw [if_pos h0] at ha
    have HA2 : Hid (valAt s (L + 1) i = (⟨1, ⟨#[]⟩, [], []⟩, (((wordAt s (ints ⟨#[102, 97, 108, 115, 101]⟩) i).1.toNat : Nat) : Int), 0)) := by
      have e1 := HW.out.1
      exact ha.trans (congrArg (Prod.mk _) (Prod.ext (by show _ = ((_ : Nat) : Int); omega) h0))
    have hv2 := HV1.out.kept HG3.out (by simp; omega)
    clear ht h0 ha HA HW
    generalize (wordAt s (ints ⟨#[102, 97, 108, 115, 101]⟩) i).1.toNat = j at *
    go_wp2_with ((with_reducible refine wpl_store_leaf (k := 1) (t := ⟨#[]⟩) hv2 ?hx ?hy ?_); (case hx => rfl); (case hy => rfl))
    (try simp only [Exit.inBlock, Exit.then])
    refine bodyPost_ret (v := .agg (leafA 1 ⟨#[]⟩)) ?_ rfl ?_
    · exact results_val rfl _ _ _ _ rfl hv2.set rfl
    · exact ValIs.good HA2.out ⟨[_, _, _, _], ⟨rfl, HR2.out.setRow (by omega) _, grown_setRow (HG2.out.trans HG3.out) (Nat.le_refl _) _⟩, jdM_leaf _ _ _ _ _ _⟩
  · have ha := HA.out
    rw [if_neg h0] at ha
    replace HA := Lib.hid ha
    have H0' := Lib.hid h0
    obtain ⟨p, rfl, h1, h2, h3⟩ := (Or.resolve_left ht (fun h => h0 h.1)).2
    clear ha h0 ht
    exact ⟨rfl, ValIs.bad HA.out H0'.out ⟨p, rfl, h1, HG2.out.trans h2.out, h3⟩⟩

set_option maxHeartbeats 4000000 in
set_option maxRecDepth 100000 in
theorem value_true {E : Nat → Addr} (L b : Nat) (s : ByteArray) (i : Nat) (w : World) (lev : Int) (hlev : lev = 32 - L) (hL : L ≤ 31) (hl : s.size ≤ 100000) (hs : Sents E w) (hr : Rd b s i w) (hi : i < s.size) (h : bt s i = 116) :
    Calls Tryd.prog 52 #[.pointer (some ⟨b, 0, none⟩), .int .i64 lev] w (ValIs E b s (L + 1) (valAt s (L + 1) i) w) := by
  have hst : starter (bt s i) = true := by rw [h]; rfl
  have HA : Hid (valAt s (L + 1) i = if (wordAt s (ints ⟨#[116, 114, 117, 101]⟩) i).2 = 0 then (⟨2, ⟨#[]⟩, [], []⟩, wordAt s (ints ⟨#[116, 114, 117, 101]⟩) i) else (jz, wordAt s (ints ⟨#[116, 114, 117, 101]⟩) i)) := by
    show _ = _
    rw [valAt_succ s L i hi hst, show ints ⟨#[116, 114, 117, 101]⟩ = [116, 114, 117, 101] from rfl]
    rw [if_neg (by omega), if_neg (by omega), if_pos h]
  have hbn := hr.lt
  have H0 := Lib.hid (val_setup hs hr)
  obtain ⟨v, hv, hvi⟩ := start_index (bt s i) (bt_nonneg _ _) (bt_le _ _)
  have hv0 : 0 ≤ v := hvi.2 hst
  rw [h] at hv
  have HV := Lib.hid hv
  have HP := Lib.hid (peek_ok b s i _ (by omega) H0.out.1 hi)
  rw [h] at HP
  clear hr hs hvi hv hst
  go_enter Tryd.func52, Tryd.ntmps52
  go_wp2_with fail
  refine HP.out.mono ?_
  rintro e w1 ⟨rfl, HR1, HG1⟩
  have HG2 := Lib.hid (H0.out.2.2.1.trans HG1.out)
  have HS1 := Lib.hid (H0.out.2.1.grown H0.out.1 HG1.out)
  have HV1 := Lib.hid (H0.out.2.2.2.kept HG1.out (by simp; omega))
  clear H0 HG1 HP
  go_wp2_with (go_at_call 72; refine (HV.out _).mono ?_; rintro e w' ⟨rfl, rfl⟩)
  refine (word_any (E := E) b s ⟨#[116, 114, 117, 101]⟩ 2 i _ (by omega) (by decide) HS1.out HR1.out).mono ?_
  intro e w2 ht
  by_cases h0 : (wordAt s (ints ⟨#[116, 114, 117, 101]⟩) i).2 = 0
  · obtain ⟨rfl, HR2, HG3⟩ := (Or.resolve_right ht (fun h => h.1 h0)).2
    have HW := Lib.hid (wordAt_range s (ints ⟨#[116, 114, 117, 101]⟩) i (by simp [ints]) h0)
    have ha := HA.out
    rw [if_pos h0] at ha
    have HA2 : Hid (valAt s (L + 1) i = (⟨2, ⟨#[]⟩, [], []⟩, (((wordAt s (ints ⟨#[116, 114, 117, 101]⟩) i).1.toNat : Nat) : Int), 0)) := by
      have e1 := HW.out.1
      exact ha.trans (congrArg (Prod.mk _) (Prod.ext (by show _ = ((_ : Nat) : Int); omega) h0))
    have hv2 := HV1.out.kept HG3.out (by simp; omega)
    clear ht h0 ha HA HW
    generalize (wordAt s (ints ⟨#[116, 114, 117, 101]⟩) i).1.toNat = j at *
    go_wp2_with ((with_reducible refine wpl_store_leaf (k := 2) (t := ⟨#[]⟩) hv2 ?hx ?hy ?_); (case hx => rfl); (case hy => rfl))
    (try simp only [Exit.inBlock, Exit.then])
    refine bodyPost_ret (v := .agg (leafA 2 ⟨#[]⟩)) ?_ rfl ?_
    · exact results_val rfl _ _ _ _ rfl hv2.set rfl
    · exact ValIs.good HA2.out ⟨[_, _, _, _], ⟨rfl, HR2.out.setRow (by omega) _, grown_setRow (HG2.out.trans HG3.out) (Nat.le_refl _) _⟩, jdM_leaf _ _ _ _ _ _⟩
  · have ha := HA.out
    rw [if_neg h0] at ha
    replace HA := Lib.hid ha
    have H0' := Lib.hid h0
    obtain ⟨p, rfl, h1, h2, h3⟩ := (Or.resolve_left ht (fun h => h0 h.1)).2
    clear ha h0 ht
    exact ⟨rfl, ValIs.bad HA.out H0'.out ⟨p, rfl, h1, HG2.out.trans h2.out, h3⟩⟩
end

section
open Go.RowKit Go.PlainAid
open Go.Proofs.YtpdpgppaoipnlaaDoorW.PrintWords hiding bt
open Go.Proofs.YtpdpgppaoipnlaaDoorW.PrintMore

set_option maxHeartbeats 1000000 in
theorem jsonval_Str_any (t : ByteArray) (w : World) :
    Calls Tryd.prog 31 #[.string t] w fun e w' => e = .returned (.agg (leafA 4 t)) ∧ Below w.heap.size w w' := by
  have hv := VRow.new w (leafA 0 ⟨#[]⟩)
  have hb : Hid (Below w.heap.size w (w.alloc (.cells (leafA 0 ⟨#[]⟩) 26))) := (Below.refl _ _).alloc (Nat.le_refl _) _
  go_enter Tryd.func31, Tryd.ntmps31
  go_wp2_with ((with_reducible refine wpl_store_leaf (k := 4) (t := t) hv ?hx ?hy ?_); (case hx => rfl); (case hy => rfl))
  (try simp only [Exit.inBlock, Exit.then])
  refine bodyPost_ret (v := .agg (leafA 4 t)) ?_ rfl ⟨rfl, ?_⟩
  · exact results_val rfl _ _ _ _ rfl hv.set rfl
  · exact ⟨hb.out.os, hb.out.tape, hb.out.output, by simp [World.setRow], fun k hk => (setRow_other _ _ _ _ (by omega)).trans (hb.out.block k hk)⟩
theorem valIs_open {E : Nat → Addr} {b n : Nat} {s : ByteArray} {r : JV × Int × Int} {w w' : World} {e : Ending} (h : ValIs E b s n r w e w') :
    (r.2.2 = 0 ∧ ∃ A2 c2 A3 c3, Ret b s (.agg #[.int .i64 r.1.kind, .string r.1.text, .slice A2 r.1.list.length c2, .slice A3 r.1.mem.length c3]) r.2.1.toNat w e w' ∧ Hid ((jd n).M w' w.heap.size (fun k => w.heap.size ≤ k) r.1 (jcells r.1 A2 c2 A3 c3))) ∨ (r.2.2 ≠ 0 ∧ Thr E b s r.2.1 r.2.2 w e w') := by
  rcases h with ⟨h0, cs, h1, h2⟩ | h
  · obtain ⟨A2, c2, A3, c3, rfl⟩ := jdM_cells h2.out
    exact .inl ⟨h0, A2, c2, A3, c3, h1, h2⟩
  · exact .inr h
/-- A value that a callee made is handed on in the result's own row. -/
theorem val_ret {n : Nat} {w W w2 : World} {x : JV} {cs : List Value} (h : (jd n).M w2 W.heap.size (fun k => W.heap.size ≤ k) x cs) (hW : w.heap.size + 1 ≤ W.heap.size) (ds : Array Value) : (jd n).M (w2.setRow w.heap.size ds) w.heap.size (fun k => w.heap.size ≤ k) x cs :=
  (jd n).M_lower (by omega) ((jd n).M_mono (fun k hk => by omega) (Kd.M_step h (fun k hk _ => setRow_other _ _ _ _ (by omega))))

set_option maxHeartbeats 4000000 in
set_option maxRecDepth 100000 in
theorem value_arr {E : Nat → Addr} (L b : Nat) (s : ByteArray) (i : Nat) (w : World) (lev : Int) (hlev : lev = 32 - L) (hL : L ≤ 31) (hva : ValAll E L) (hl : s.size ≤ 100000) (hs : Sents E w) (hr : Rd b s i w) (hi : i < s.size) (h : bt s i = 91) :
    Calls Tryd.prog 52 #[.pointer (some ⟨b, 0, none⟩), .int .i64 lev] w (ValIs E b s (L + 1) (valAt s (L + 1) i) w) := by
  have hst : starter (bt s i) = true := by rw [h]; rfl
  have HA : Hid (valAt s (L + 1) i = arrAt s L i) := by
    show _ = _
    rw [valAt_succ s L i hi hst, if_neg (by omega), if_neg (by omega), if_neg (by omega), if_neg (by omega), if_pos h]
  have hbn := hr.lt
  have HVA := Lib.hid hva
  clear hva
  have HAT : Hid (isAt s i 91 = true) := by show _ = _; simp [isAt, hi, h]
  have H0 := Lib.hid (val_setup hs hr)
  obtain ⟨v, hv, hvi⟩ := start_index (bt s i) (bt_nonneg _ _) (bt_le _ _)
  have hv0 : 0 ≤ v := hvi.2 hst
  rw [h] at hv
  have HV := Lib.hid hv
  have HP := Lib.hid (peek_ok b s i _ (by omega) H0.out.1 hi)
  rw [h] at HP
  clear hr hs hvi hv hst
  go_enter Tryd.func52, Tryd.ntmps52
  go_wp2_with fail
  refine HP.out.mono ?_
  rintro e w1 ⟨rfl, HR1, HG1⟩
  have HG2 := Lib.hid (H0.out.2.2.1.trans HG1.out)
  have HS1 := Lib.hid (H0.out.2.1.grown H0.out.1 HG1.out)
  have HV1 := Lib.hid (H0.out.2.2.2.kept HG1.out (by simp; omega))
  have HN1 : Hid (w.heap.size + 1 ≤ w1.heap.size) := HV1.out.lt
  clear H0 HG1 HP
  go_wp2_with (go_at_call 72; refine (HV.out _).mono ?_; rintro e w' ⟨rfl, rfl⟩)
  refine (array_any (E := E) b s L i _ _ (valAt_ends s L) hL (by omega) HVA.out hl HS1.out HR1.out HAT.out).mono ?_
  intro e w2 ht
  rw [← HA.out] at ht
  clear HA
  rcases valIs_open ht with ⟨h0, A2, c2, A3, c3, ⟨rfl, HR2, HG3⟩, HM⟩ | ⟨h0, p, rfl, h1, h2, h3⟩
  · have hv2 := HV1.out.kept HG3.out (by simp; omega)
    have HH0 := Lib.hid h0
    obtain ⟨j, HJ, _⟩ := valAt_ends s (L + 1) i h0
    have HA2 : Hid (valAt s (L + 1) i = ((valAt s (L + 1) i).1, (((valAt s (L + 1) i).2.1.toNat : Nat) : Int), 0)) := Prod.ext rfl (Prod.ext (by show _ = ((_ : Nat) : Int); rw [HJ]; simp) h0)
    clear h0 HJ HH0 ht
    generalize (valAt s (L + 1) i).2.1.toNat = j2 at *
    generalize hx : (valAt s (L + 1) i).1 = x at *
    go_wp2_with ((with_reducible refine wpl_store_row4 (k := x.kind) (t := x.text) (A2 := A2) (n2 := x.list.length) (c2 := c2) (A3 := A3) (n3 := x.mem.length) (c3 := c3) hv2 ?hx ?hy ?_); (case hx => rfl); (case hy => rfl))
    (try simp only [Exit.inBlock, Exit.then])
    refine bodyPost_ret (v := .agg #[.int .i64 x.kind, .string x.text, .slice A2 x.list.length c2, .slice A3 x.mem.length c3]) ?_ rfl ?_
    · exact results_val rfl _ _ _ _ rfl hv2.set rfl
    · exact ValIs.good HA2.out ⟨_, ⟨rfl, HR2.out.setRow (by omega) _, grown_setRow (HG2.out.trans HG3.out) (Nat.le_refl _) _⟩, val_ret HM.out HN1.out _⟩
  · have HT := Lib.hid h0
    clear ht h0
    exact ⟨rfl, .inr ⟨HT.out, p, rfl, h1, HG2.out.trans h2.out, h3⟩⟩

set_option maxHeartbeats 4000000 in
set_option maxRecDepth 100000 in
theorem value_obj {E : Nat → Addr} (L b : Nat) (s : ByteArray) (i : Nat) (w : World) (lev : Int) (hlev : lev = 32 - L) (hL : L ≤ 31) (hva : ObjAll E L) (hl : s.size ≤ 100000) (hs : Sents E w) (hr : Rd b s i w) (hi : i < s.size) (h : bt s i = 123) :
    Calls Tryd.prog 52 #[.pointer (some ⟨b, 0, none⟩), .int .i64 lev] w (ValIs E b s (L + 1) (valAt s (L + 1) i) w) := by
  have hst : starter (bt s i) = true := by rw [h]; rfl
  have HA : Hid (valAt s (L + 1) i = objAt s L i) := by
    show _ = _
    rw [valAt_succ s L i hi hst, if_neg (by omega), if_neg (by omega), if_neg (by omega), if_neg (by omega), if_neg (by omega), if_pos h]
  have hbn := hr.lt
  have HVA := Lib.hid hva
  clear hva
  have HAT : Hid (isAt s i 123 = true) := by show _ = _; simp [isAt, hi, h]
  have H0 := Lib.hid (val_setup hs hr)
  obtain ⟨v, hv, hvi⟩ := start_index (bt s i) (bt_nonneg _ _) (bt_le _ _)
  have hv0 : 0 ≤ v := hvi.2 hst
  rw [h] at hv
  have HV := Lib.hid hv
  have HP := Lib.hid (peek_ok b s i _ (by omega) H0.out.1 hi)
  rw [h] at HP
  clear hr hs hvi hv hst
  go_enter Tryd.func52, Tryd.ntmps52
  go_wp2_with fail
  refine HP.out.mono ?_
  rintro e w1 ⟨rfl, HR1, HG1⟩
  have HG2 := Lib.hid (H0.out.2.2.1.trans HG1.out)
  have HS1 := Lib.hid (H0.out.2.1.grown H0.out.1 HG1.out)
  have HV1 := Lib.hid (H0.out.2.2.2.kept HG1.out (by simp; omega))
  have HN1 : Hid (w.heap.size + 1 ≤ w1.heap.size) := HV1.out.lt
  clear H0 HG1 HP
  go_wp2_with (go_at_call 72; refine (HV.out _).mono ?_; rintro e w' ⟨rfl, rfl⟩)
  refine (HVA.out b s i _ _ (by omega) hl HS1.out HR1.out HAT.out).mono ?_
  intro e w2 ht
  rw [← HA.out] at ht
  clear HA
  rcases valIs_open ht with ⟨h0, A2, c2, A3, c3, ⟨rfl, HR2, HG3⟩, HM⟩ | ⟨h0, p, rfl, h1, h2, h3⟩
  · have hv2 := HV1.out.kept HG3.out (by simp; omega)
    have HH0 := Lib.hid h0
    obtain ⟨j, HJ, _⟩ := valAt_ends s (L + 1) i h0
    have HA2 : Hid (valAt s (L + 1) i = ((valAt s (L + 1) i).1, (((valAt s (L + 1) i).2.1.toNat : Nat) : Int), 0)) := Prod.ext rfl (Prod.ext (by show _ = ((_ : Nat) : Int); rw [HJ]; simp) h0)
    clear h0 HJ HH0 ht
    generalize (valAt s (L + 1) i).2.1.toNat = j2 at *
    generalize hx : (valAt s (L + 1) i).1 = x at *
    go_wp2_with ((with_reducible refine wpl_store_row4 (k := x.kind) (t := x.text) (A2 := A2) (n2 := x.list.length) (c2 := c2) (A3 := A3) (n3 := x.mem.length) (c3 := c3) hv2 ?hx ?hy ?_); (case hx => rfl); (case hy => rfl))
    (try simp only [Exit.inBlock, Exit.then])
    refine bodyPost_ret (v := .agg #[.int .i64 x.kind, .string x.text, .slice A2 x.list.length c2, .slice A3 x.mem.length c3]) ?_ rfl ?_
    · exact results_val rfl _ _ _ _ rfl hv2.set rfl
    · exact ValIs.good HA2.out ⟨_, ⟨rfl, HR2.out.setRow (by omega) _, grown_setRow (HG2.out.trans HG3.out) (Nat.le_refl _) _⟩, val_ret HM.out HN1.out _⟩
  · have HT := Lib.hid h0
    clear ht h0
    exact ⟨rfl, .inr ⟨HT.out, p, rfl, h1, HG2.out.trans h2.out, h3⟩⟩

set_option maxHeartbeats 4000000 in
set_option maxRecDepth 100000 in
theorem value_str {E : Nat → Addr} (L b : Nat) (s : ByteArray) (i : Nat) (w : World) (lev : Int) (hlev : lev = 32 - L) (hL : L ≤ 31) (hl : s.size ≤ 100000) (hs : Sents E w) (hr : Rd b s i w) (hi : i < s.size) (h : bt s i = 34) :
    Calls Tryd.prog 52 #[.pointer (some ⟨b, 0, none⟩), .int .i64 lev] w (ValIs E b s (L + 1) (valAt s (L + 1) i) w) := by
  have hst : starter (bt s i) = true := by rw [h]; rfl
  have HA : Hid (valAt s (L + 1) i = if (strAt s i).2.2 = 0 then (⟨4, txtOf (strAt s i).1, [], []⟩, (strAt s i).2) else (jz, (strAt s i).2)) := by
    show _ = _
    rw [valAt_succ s L i hi hst, if_neg (by omega), if_neg (by omega), if_neg (by omega), if_pos h]
  have hbn := hr.lt
  have H0 := Lib.hid (val_setup hs hr)
  obtain ⟨v, hv, hvi⟩ := start_index (bt s i) (bt_nonneg _ _) (bt_le _ _)
  have hv0 : 0 ≤ v := hvi.2 hst
  rw [h] at hv
  have HV := Lib.hid hv
  have HP := Lib.hid (peek_ok b s i _ (by omega) H0.out.1 hi)
  rw [h] at HP
  clear hr hs hvi hv hst
  go_enter Tryd.func52, Tryd.ntmps52
  go_wp2_with fail
  refine HP.out.mono ?_
  rintro e w1 ⟨rfl, HR1, HG1⟩
  have HG2 := Lib.hid (H0.out.2.2.1.trans HG1.out)
  have HS1 := Lib.hid (H0.out.2.1.grown H0.out.1 HG1.out)
  have HV1 := Lib.hid (H0.out.2.2.2.kept HG1.out (by simp; omega))
  have HN1 : Hid (w.heap.size + 1 ≤ w1.heap.size) := HV1.out.lt
  clear H0 HG1 HP
  go_wp2_with (go_at_call 72; refine (HV.out _).mono ?_; rintro e w' ⟨rfl, rfl⟩)
  refine (str_any (E := E) b s i _ hl HS1.out HR1.out).mono ?_
  intro e w2 ht
  by_cases h0 : (strAt s i).2.2 = 0
  · obtain ⟨rfl, HR2, HG3⟩ := (Or.resolve_right ht (fun h => h.1 h0)).2
    obtain ⟨j, HJ, _⟩ := strAt_range s i h0
    have ha := HA.out
    rw [if_pos h0] at ha
    have HA2 : Hid (valAt s (L + 1) i = (⟨4, txtOf (strAt s i).1, [], []⟩, (((strAt s i).2.1.toNat : Nat) : Int), 0)) := ha.trans (congrArg (Prod.mk _) (Prod.ext (by show _ = ((_ : Nat) : Int); rw [HJ]; simp) h0))
    have hv2 := Lib.hid (HV1.out.kept HG3.out (by simp; omega))
    have HG4 := Lib.hid (HG2.out.trans HG3.out)
    clear ht h0 ha HA HJ HG3 HV1 HG2
    generalize (strAt s i).2.1.toNat = j2 at *
    generalize txtOf (strAt s i).1 = tx at *
    go_wp2_with fail
    refine (jsonval_Str_any tx _).mono ?_
    rintro e w3 ⟨rfl, hb3⟩
    have hv3 := hv2.out.kept (grown_below hb3 none) (by simp)
    have HR3 := Lib.hid (HR2.out.below hb3)
    have HG5 := Lib.hid (HG4.out.trans (grown_below hb3 (some b)))
    clear hb3 HR2 hv2 HG4
    go_wp2_with ((with_reducible refine wpl_store_leaf (k := 4) (t := tx) hv3 ?hx ?hy ?_); (case hx => rfl); (case hy => rfl))
    (try simp only [Exit.inBlock, Exit.then])
    refine bodyPost_ret (v := .agg (leafA 4 tx)) ?_ rfl ?_
    · exact results_val rfl _ _ _ _ rfl hv3.set rfl
    · exact ValIs.good HA2.out ⟨[_, _, _, _], ⟨rfl, HR3.out.setRow (by omega) _, grown_setRow HG5.out (Nat.le_refl _) _⟩, jdM_leaf _ _ _ _ _ _⟩
  · have ha := HA.out
    rw [if_neg h0] at ha
    replace HA := Lib.hid ha
    have H0' := Lib.hid h0
    obtain ⟨p, rfl, h1, h2, h3⟩ := (Or.resolve_left ht (fun h => h0 h.1)).2
    clear ha h0 ht
    exact ⟨rfl, ValIs.bad HA.out H0'.out ⟨p, rfl, h1, HG2.out.trans h2.out, h3⟩⟩

set_option maxHeartbeats 4000000 in
set_option maxRecDepth 100000 in
theorem value_num {E : Nat → Addr} (L b : Nat) (s : ByteArray) (i : Nat) (w : World) (lev : Int) (hlev : lev = 32 - L) (hL : L ≤ 31) (hl : s.size ≤ 100000) (hs : Sents E w) (hr : Rd b s i w) (hi : i < s.size) (h : bt s i = 45 ∨ (48 ≤ bt s i ∧ bt s i ≤ 57)) :
    Calls Tryd.prog 52 #[.pointer (some ⟨b, 0, none⟩), .int .i64 lev] w (ValIs E b s (L + 1) (valAt s (L + 1) i) w) := by
  have hst : starter (bt s i) = true := by simp [starter]; omega
  have HA : Hid (valAt s (L + 1) i = if (numAt s i).2 = 0 then (⟨3, s.extract i (numAt s i).1.toNat, [], []⟩, numAt s i) else (jz, numAt s i)) := by
    show _ = _
    rw [valAt_succ s L i hi hst, if_neg (by omega), if_neg (by omega), if_neg (by omega), if_neg (by omega), if_neg (by omega), if_neg (by omega)]
  have hbn := hr.lt
  have H0 := Lib.hid (val_setup hs hr)
  obtain ⟨v, hv, hvi⟩ := start_index (bt s i) (bt_nonneg _ _) (bt_le _ _)
  have hv0 : 0 ≤ v := hvi.2 hst
  have HV := Lib.hid hv
  have HP := Lib.hid (peek_ok b s i _ (by omega) H0.out.1 hi)
  obtain ⟨x, HX⟩ : ∃ x, Hid (bt s i = x) := ⟨_, rfl⟩
  rw [HX.out] at HP HV h
  have e1 : (x == 110) = false := by rw [beq_eq_false_iff_ne]; omega
  have e2 : (x == 102) = false := by rw [beq_eq_false_iff_ne]; omega
  have e3 : (x == 116) = false := by rw [beq_eq_false_iff_ne]; omega
  have e4 : (x == 34) = false := by rw [beq_eq_false_iff_ne]; omega
  have e5 : (x == 91) = false := by rw [beq_eq_false_iff_ne]; omega
  have e6 : (x == 123) = false := by rw [beq_eq_false_iff_ne]; omega
  clear hr hs hvi hv hst h
  go_enter Tryd.func52, Tryd.ntmps52
  go_wp2_with fail
  refine HP.out.mono ?_
  rintro e w1 ⟨rfl, HR1, HG1⟩
  have HG2 := Lib.hid (H0.out.2.2.1.trans HG1.out)
  have HS1 := Lib.hid (H0.out.2.1.grown H0.out.1 HG1.out)
  have HV1 := Lib.hid (H0.out.2.2.2.kept HG1.out (by simp; omega))
  have HN1 : Hid (w.heap.size + 1 ≤ w1.heap.size) := HV1.out.lt
  clear H0 HG1 HP
  go_wp2_with (go_at_call 72; refine (HV.out _).mono ?_; rintro e w' ⟨rfl, rfl⟩)
  refine (number_any (E := E) b s i _ (by omega) (by omega) HS1.out HR1.out).mono ?_
  intro e w2 ht
  by_cases h0 : (numAt s i).2 = 0
  · obtain ⟨rfl, HR2, HG3⟩ := (Or.resolve_right ht (fun h => h.1 h0)).2
    obtain ⟨j, HJ, _⟩ := numAt_range s i h0
    have ha := HA.out
    rw [if_pos h0] at ha
    have HA2 : Hid (valAt s (L + 1) i = (⟨3, s.extract i (numAt s i).1.toNat, [], []⟩, (((numAt s i).1.toNat : Nat) : Int), 0)) := ha.trans (congrArg (Prod.mk _) (Prod.ext (by show _ = ((_ : Nat) : Int); rw [HJ]; simp) h0))
    have hv3 := HV1.out.kept HG3.out (by simp; omega)
    have HG5 := Lib.hid (HG2.out.trans HG3.out)
    clear ht h0 ha HA HJ HG3 HV1 HG2
    generalize (numAt s i).1.toNat = j2 at *
    generalize s.extract i j2 = tx at *
    go_wp2_with ((with_reducible refine wpl_store_leaf (k := 3) (t := tx) hv3 ?hx ?hy ?_); (case hx => rfl); (case hy => rfl))
    (try simp only [Exit.inBlock, Exit.then])
    refine bodyPost_ret (v := .agg (leafA 3 tx)) ?_ rfl ?_
    · exact results_val rfl _ _ _ _ rfl hv3.set rfl
    · exact ValIs.good HA2.out ⟨[_, _, _, _], ⟨rfl, HR2.out.setRow (by omega) _, grown_setRow HG5.out (Nat.le_refl _) _⟩, jdM_leaf _ _ _ _ _ _⟩
  · have ha := HA.out
    rw [if_neg h0] at ha
    replace HA := Lib.hid ha
    have H0' := Lib.hid h0
    obtain ⟨p, rfl, h1, h2, h3⟩ := (Or.resolve_left ht (fun h => h0 h.1)).2
    clear ha h0 ht
    exact ⟨rfl, ValIs.bad HA.out H0'.out ⟨p, rfl, h1, HG2.out.trans h2.out, h3⟩⟩

theorem value_step {E : Nat → Addr} (L : Nat) (hL : L ≤ 31) (hv : ValAll E L) (ho : ObjAll E L) : ValAll E (L + 1) := by
  intro b s i w lev hlev hl hs hr hi
  have hlev' : lev = 32 - L := by omega
  by_cases h : s.size ≤ i
  · exact value_end (L + 1) b s i w lev hl hs hr h
  · have hi' : i < s.size := by omega
    cases h2 : starter (bt s i) with
    | false => exact value_not (L + 1) b s i w lev hl hs hr hi' h2
    | true =>
      have h3 : bt s i = 110 ∨ bt s i = 102 ∨ bt s i = 116 ∨ bt s i = 34 ∨ bt s i = 91 ∨ bt s i = 123 ∨ bt s i = 45 ∨ (48 ≤ bt s i ∧ bt s i ≤ 57) := by simpa [starter] using h2
      rcases h3 with h3 | h3 | h3 | h3 | h3 | h3 | h3
      · exact value_null L b s i w lev hlev' hL hl hs hr hi' h3
      · exact value_false L b s i w lev hlev' hL hl hs hr hi' h3
      · exact value_true L b s i w lev hlev' hL hl hs hr hi' h3
      · exact value_str L b s i w lev hlev' hL hl hs hr hi' h3
      · exact value_arr L b s i w lev hlev' hL hv hl hs hr hi' h3
      · exact value_obj L b s i w lev hlev' hL ho hl hs hr hi' h3
      · exact value_num L b s i w lev hlev' hL hl hs hr hi' h3
end

section
open Go.RowKit Go.PlainAid
open Go.Proofs.YtpdpgppaoipnlaaDoorW.PrintWords hiding bt
open Go.Proofs.YtpdpgppaoipnlaaDoorW.PrintMore

def spaceAt (s : ByteArray) (at_ : Int) : Int := if at_ < 0 ∨ s.size < at_ then at_ else spc s at_.toNat
theorem below_grown_new {w W w' : World} {b : Nat} (h : Below w.heap.size w W) (hg : W.grownBy w' (some b)) (hb : w.heap.size ≤ b) : Below w.heap.size w w' :=
  ⟨hg.os.trans h.os, hg.tape.trans h.tape, hg.output.trans h.output, Nat.le_trans h.size hg.size, fun k hk => (hg.block k (Nat.lt_of_lt_of_le hk h.size) (by simp; omega)).trans (h.block k hk)⟩

set_option maxHeartbeats 1000000 in
set_option maxRecDepth 100000 in
theorem Space_any (s : ByteArray) (at_ : Int) (w : World) (hl : s.size ≤ 100000) :
    Calls Tryd.prog 19 #[.string s, .int .i64 at_] w fun e w' => e = .returned (.int .i64 (spaceAt s at_)) ∧ Below w.heap.size w w' := by
  by_cases h1 : at_ < 0
  · have HA : Hid (spaceAt s at_ = at_) := by show _ = _; unfold spaceAt; rw [if_pos (.inl h1)]
    go_enter Tryd.func19, Tryd.ntmps19
    go_wp2
    go_ret
    exact ⟨by rw [HA.out]; rfl, Below.refl _ _⟩
  · by_cases h2 : (s.size : Int) < at_
    · have HA : Hid (spaceAt s at_ = at_) := by show _ = _; unfold spaceAt; rw [if_pos (.inr h2)]
      go_enter Tryd.func19, Tryd.ntmps19
      go_wp2
      go_ret
      exact ⟨by rw [HA.out]; rfl, Below.refl _ _⟩
    · obtain ⟨n, rfl⟩ : ∃ n : Nat, at_ = n := ⟨at_.toNat, by omega⟩
      have HA : Hid (spaceAt s n = ((spc s n : Nat) : Int)) := by show _ = _; unfold spaceAt; rw [if_neg (by omega), Int.toNat_natCast]
      have HR0 : Hid (Rd w.heap.size s n (w.alloc (.cells #[.string s, .int .i64 n] 79))) := Go.heap_alloc_new w _
      have HB0 : Hid (Below w.heap.size w (w.alloc (.cells #[.string s, .int .i64 n] 79))) := (Below.refl _ _).alloc (Nat.le_refl _) _
      go_enter Tryd.func19, Tryd.ntmps19
      go_wp2_with fail
      refine (space_any w.heap.size s n _ (by omega) HR0.out).mono ?_
      rintro e w1 ⟨rfl, HR1, HG1⟩
      have c1 := HR1.out.c1
      go_wp2_with fail
      go_ret
      exact ⟨by rw [HA.out]; rfl, below_grown_new HB0.out HG1.out (Nat.le_refl _)⟩
end

section
open Go.RowKit Go.PlainAid

def keyLit (t : ByteArray) : Lit := .string t.data.toList
theorem key_lit (t : ByteArray) (h : t.size ≤ 1000000) : keyOf Tryd.prog 9 (.string t) = some (keyLit t) := by
  simp [keyOf, mapKey, Tryd.underlying9, keyLit]
  have : (1000000 : Nat) ≤ maxLen := by decide
  omega
theorem strKeyed : Maps.Keyed Tryd.prog 9 := Maps.string_keyed Tryd.underlying9
theorem keyLit_inj {a b : ByteArray} (h : keyLit a = keyLit b) : a = b := by
  unfold keyLit at h
  injection h with h
  cases a; cases b; congr
  exact Array.toList_inj.1 h
/-- A map of the call's own, in which each name of a list stands with 1. -/
def Seen (mb : Nat) (ks : List (List Int)) (w : World) : Prop := ∃ (D : DataW Unit) (n : Nat), w.ownsMap Tryd.prog 9 (plainElem Tryd.prog 3) mb n D ∧ Maps.IsMap D ∧ n ≤ ks.length ∧ ∀ t : ByteArray, D.atKey (keyLit t) (.lit (.int .i64 0)) = .lit (.int .i64 (if ints t ∈ ks then 1 else 0))
theorem Seen.made (w : World) : Seen w.heap.size [] (w.alloc (.map #[] 0)) := ⟨.map [], 0, World.ownsMap_made w _ _ _, Maps.isMap_empty, by simp, fun t => by simp [DataW.atKey]⟩
theorem Seen.kept {mb : Nat} {ks : List (List Int)} {w w' : World} {row : Option Nat} (h : Seen mb ks w) (hg : w.grownBy w' row) (hne : some mb ≠ row) : Seen mb ks w' := by
  obtain ⟨D, n, h1, h2, h3, h4⟩ := h
  exact ⟨D, n, h1.kept hg hne, h2, h3, h4⟩
theorem Seen.put {mb n : Nat} {D : DataW Unit} {ks : List (List Int)} {w' : World} (h2 : Maps.IsMap D) (h3 : n ≤ ks.length) (h4 : ∀ t : ByteArray, D.atKey (keyLit t) (.lit (.int .i64 0)) = .lit (.int .i64 (if ints t ∈ ks then 1 else 0))) (t : ByteArray) (ht : t.size ≤ 1000000)
    (h1 : w'.ownsMap Tryd.prog 9 (plainElem Tryd.prog 3) mb (n + 1) (D.put (keyLit t) (.lit (.int .i64 1)))) : Seen mb (ks ++ [ints t]) w' := by
  refine ⟨_, n + 1, h1, h2.put _ _, by simp; omega, fun u => ?_⟩
  by_cases e : u = t
  · subst e
    rw [Maps.atKey_put_same h2 (strKeyed.key (key_lit u ht)), if_pos (by simp)]
  · rw [Maps.atKey_put_other (fun h => e (keyLit_inj h)), h4 u]
    have : ints u ∈ ks ++ [ints t] ↔ ints u ∈ ks := by
      rw [List.mem_append, List.mem_singleton]
      exact ⟨fun h => h.resolve_right (fun h => e (ints_inj h)), .inl⟩
    simp only [this]
end

section
open Go.RowKit Go.PlainAid

theorem zero_int (w : World) : (zeroValue 3).run Tryd.prog w = .ok (.int .i64 0) w := by kernel_rfl
/-- A map of the call's own: what stands at each name. -/
def SeenF (mb N : Nat) (f : ByteArray → Int) (w : World) : Prop := ∃ (D : DataW Unit) (n : Nat), w.ownsMap Tryd.prog 9 (plainElem Tryd.prog 3) mb n D ∧ Maps.IsMap D ∧ n ≤ N ∧ ∀ t : ByteArray, D.atKey (keyLit t) (.lit (.int .i64 0)) = .lit (.int .i64 (f t))
theorem Seen.open {mb : Nat} {ks : List (List Int)} {w : World} (h : Seen mb ks w) : SeenF mb ks.length (fun t => if ints t ∈ ks then 1 else 0) w := h
theorem SeenF.seen {mb : Nat} {ks : List (List Int)} {f : ByteArray → Int} {w : World} (h : SeenF mb ks.length f w) (hf : ∀ t, f t = if ints t ∈ ks then 1 else 0) : Seen mb ks w := by
  obtain ⟨D, n, h1, h2, h3, h4⟩ := h
  exact ⟨D, n, h1, h2, h3, fun t => by rw [h4 t, hf t]⟩
theorem wpl_seen_look {ops : Array Oper} {rest : List Oper} {a : Act} {w : World} {Q : Exit → Act → World → Prop} {dst : Option Tmp} {m x : Operand} {ty : TypeId} {pos : String} {after : Array Edge} {mb N : Nat} {f : ByteArray → Int} {t : ByteArray}
    (H : SeenF mb N f w) (ht : t.size ≤ 1000000) (hx : a.eval m = .map (some mb)) (hy : a.eval x = .string t) (h : wpList Tryd.prog ops Q rest (a.put dst (.int .i64 (f t))) w) :
    wpList Tryd.prog ops Q ({ dst := dst, op := .lookup 130 m x false, type := ty, pos := pos, after := after, guard := none } :: rest) a w := by
  obtain ⟨D, n, h1, h2, h3, h4⟩ := H
  refine wpList_lookup_own_int w rfl m x 130 rfl 9 3 .i64 strKeyed Tryd.underlying130 Tryd.underlying3 (zero_int w) mb n D hx h1 (.string t) (keyLit t) hy (key_lit t ht) ?_
  intro c hc _
  rw [h4 t] at hc
  injection hc with hc
  injection hc with _ hc
  rw [← hc]
  exact h
theorem wpl_seen_put {ops : Array Oper} {rest : List Oper} {a : Act} {w : World} {Q : Exit → Act → World → Prop} {dst : Option Tmp} {m x v : Operand} {ty : TypeId} {pos : String} {after : Array Edge} {mb N : Nat} {f : ByteArray → Int} {t : ByteArray} {c : Int}
    (H : SeenF mb N f w) (ht : t.size ≤ 1000000) (hN : N ≤ 1000000) (hc : 0 ≤ c ∧ c ≤ 1000) (hx : a.eval m = .map (some mb)) (hy : a.eval x = .string t) (hv : a.eval v = .int .i64 c)
    (h : ∀ w', SeenF mb (N + 1) (fun u => if u = t then c else f u) w' → w.grownBy w' (some mb) → wpList Tryd.prog ops Q rest (a.put dst undef) w') :
    wpList Tryd.prog ops Q ({ dst := dst, op := .mapUpdate 130 m x v, type := ty, pos := pos, after := after, guard := none } :: rest) a w := by
  obtain ⟨D, n, h1, h2, h3, h4⟩ := H
  have hM : (1000001 : Nat) ≤ maxLen := by decide
  refine wpList_mapUpdate_own w rfl m x v 130 rfl 9 3 strKeyed Tryd.underlying130 (plainElem Tryd.prog 3) mb n D hx h1 (by omega) (.string t) (.int .i64 c) (keyLit t) hy hv (key_lit t ht) (.lit (.int .i64 c)) [] ?_ ?_
  · have hw : (Lit.int .i64 c).wf = true := by simp [Lit.wf, IntKind.min, IntKind.max, IntKind.bits, IntKind.signed]; omega
    simp [plainElem, Tryd.underlying3, hw]
  · intro w' g1 g2
    refine h w' ⟨_, n + 1, g1, h2.put _ _, by omega, fun u => ?_⟩ g2
    by_cases e : u = t
    · subst e
      rw [Maps.atKey_put_same h2 (strKeyed.key (key_lit u ht))]; simp
    · rw [Maps.atKey_put_other (fun h => e (keyLit_inj h)), h4 u]; simp [e]
end

section
open Go.RowKit Go.PlainAid
open Go.Proofs.YtpdpgppaoipnlaaDoorW.PrintWords hiding bt
open Go.Proofs.YtpdpgppaoipnlaaDoorW.PrintMore

theorem strK_len (s : ByteArray) : ∀ (k i : Nat) (acc : List Int), (strK s k i acc).1.length ≤ acc.length + k
  | 0, i, acc => by simp [strK]
  | k + 1, i, acc => by
    unfold strK
    split
    · simp
    split
    · simp
    split
    · simp
    split
    · split
      · have := strK_len s k (escAt s i).2.1.toNat (acc ++ [(escAt s i).1]); simp at this; omega
      · simp
    split
    · have := strK_len s k (i + (nx s i).2.1.toNat) (acc ++ [(nx s i).1]); simp at this; omega
    · simp
theorem txt_size (s : ByteArray) (i : Nat) (hl : s.size ≤ 100000) : (txtOf (strAt s i).1).size ≤ 1000000 := by
  have h1 : (strAt s i).1.length ≤ 100000 := by
    unfold strAt
    split
    · have := strK_len s (s.size - i) (i + 1) []; simp at this; omega
    · simp
  have h2 := encL_len (strAt s i).1
  show (strOfNums (encL (strAt s i).1)).size ≤ 1000000
  rw [strOfNums_size]
  omega
theorem grown_row {w W w1 : World} {b g : Nat} (hg : w.grownBy W (some b)) (h : W.grownBy w1 (some g)) (hb : w.heap.size ≤ g) : w.grownBy w1 (some b) :=
  ⟨h.os.trans hg.os, h.tape.trans hg.tape, h.output.trans hg.output, Nat.le_trans hg.size h.size, fun k hk hne => (h.block k (Nat.lt_of_lt_of_le hk hg.size) (by simp; omega)).trans (hg.block k hk hne)⟩
theorem info_m : (Tryd.prog.info? 50).map (fun i => (i.zero, i.size, i.bytes)) = some (some (.agg #[.string ⟨#[]⟩, .int .i64 0, .string ⟨#[]⟩, .slice none 0 0, .slice none 0 0]), 5, 88) := by kernel_rfl
theorem jm_sz (L : Nat) : (jm L).sz = 5 := by show 1 + (jd L).sz = 5; rw [show (jd L).sz = 4 from jsz L]
theorem Seen.block {mb : Nat} {ks : List (List Int)} {w w' : World} (h : Seen mb ks w) (hh : w'.heap[mb]? = w.heap[mb]?) : Seen mb ks w' := by
  obtain ⟨D, n, ⟨es, clock, hb, r⟩, h2⟩ := h
  exact ⟨D, n, ⟨es, clock, hh.trans hb, r⟩, h2⟩
theorem elem_done_m {b p L : Nat} {s : ByteArray} {w w5 w7 : World} {lv v : Value} {xs : List (ByteArray × JV)} {ks : List (List Int)} (hbn : b < w.heap.size) (hR : Rd b s p w5) (hO : Own2 w.heap.size 6 (.slice none 0 0) lv w5) (hG : w.grownBy w5 (some b)) (hN : w.heap.size + 3 ≤ w5.heap.size) (hB : Below (w.heap.size + 3) w5 w7) (hM : Seen (w.heap.size + 2) ks w5) (hL : (jm L).R 50 w7 (w.heap.size + 3) (fun k => w.heap.size + 3 ≤ k) v xs) :
    Rd b s p (w7.setCell ⟨w.heap.size + 1, 3, none⟩ v) ∧ Own2 w.heap.size 6 (.slice none 0 0) v (w7.setCell ⟨w.heap.size + 1, 3, none⟩ v) ∧ w.grownBy (w7.setCell ⟨w.heap.size + 1, 3, none⟩ v) (some b) ∧ w.heap.size + 3 ≤ (w7.setCell ⟨w.heap.size + 1, 3, none⟩ v).heap.size ∧ (jm L).R 50 (w7.setCell ⟨w.heap.size + 1, 3, none⟩ v) (w.heap.size + 3) (fun k => w.heap.size + 3 ≤ k) v xs ∧ Seen (w.heap.size + 2) ks (w7.setCell ⟨w.heap.size + 1, 3, none⟩ v) := by
  have h1 : VRow w.heap.size (leafA 0 ⟨#[]⟩) w7 := (hB.block _ (by omega)).trans hO.r
  have h2 : VRow (w.heap.size + 1) #[.int .i64 6, .string ⟨#[]⟩, .slice none 0 0, lv] w7 := (hB.block _ (by omega)).trans hO.v
  have h3 : Rd b s p w7 := (hB.block _ (by omega)).trans hR
  refine ⟨h3.far (by omega) _, ⟨h1.far (by omega) _, h2.set3 _⟩, grown_setNew (grown_base hG (below_less hB (by omega))) (by omega) _, ?_, Kd.R_far hL (fun k hk => by simp; omega) _, ?_⟩
  · have := hB.size
    simp [World.setCell]; omega
  · exact hM.block ((Below.heap_setCell _ _ _ _ (by simp)).trans (hB.block _ (by omega)))
theorem obj_start (b i : Nat) (s : ByteArray) {E : Nat → Addr} (w : World) (hs : Sents E w) (hr : Rd b s i w) :
    Rd b s i (((w.alloc (.cells (leafA 0 ⟨#[]⟩) 26)).alloc (.cells (leafA 6 ⟨#[]⟩) 26)).alloc (.map #[] 0)) ∧
    Own2 w.heap.size 6 (.slice none 0 0) (.slice none 0 0) (((w.alloc (.cells (leafA 0 ⟨#[]⟩) 26)).alloc (.cells (leafA 6 ⟨#[]⟩) 26)).alloc (.map #[] 0)) ∧
    w.grownBy (((w.alloc (.cells (leafA 0 ⟨#[]⟩) 26)).alloc (.cells (leafA 6 ⟨#[]⟩) 26)).alloc (.map #[] 0)) (some b) ∧
    Seen (w.heap.size + 2) [] (((w.alloc (.cells (leafA 0 ⟨#[]⟩) 26)).alloc (.cells (leafA 6 ⟨#[]⟩) 26)).alloc (.map #[] 0)) ∧
    w.heap.size + 3 ≤ (((w.alloc (.cells (leafA 0 ⟨#[]⟩) 26)).alloc (.cells (leafA 6 ⟨#[]⟩) 26)).alloc (.map #[] 0)).heap.size := by
  obtain ⟨h1, h2, h3, h4, h5⟩ := own_start b i 6 s w hs hr
  have hlt := hr.lt
  have hg := World.grownBy_alloc ((w.alloc (.cells (leafA 0 ⟨#[]⟩) 26)).alloc (.cells (leafA 6 ⟨#[]⟩) 26)) (.map #[] 0) (some b)
  refine ⟨h1.kept (World.grownBy_alloc _ _ none) (by simp), h3.kept hg hlt, h4.trans hg, ?_, by simp⟩
  have := Seen.made ((w.alloc (.cells (leafA 0 ⟨#[]⟩) 26)).alloc (.cells (leafA 6 ⟨#[]⟩) 26))
  simp at this
  exact this

set_option maxHeartbeats 4000000 in
set_option maxRecDepth 100000 in
theorem object_any {E : Nat → Addr} (b : Nat) (s : ByteArray) (L i : Nat) (w : World) (lev : Int) (hL : L ≤ 31) (hlev : lev = 32 - L) (hv : ValAll E L) (hl : s.size ≤ 100000) (hs : Sents E w) (hr : Rd b s i w) (h : isAt s i 123 = true) :
    Calls Tryd.prog 87 #[.pointer (some ⟨b, 0, none⟩), .int .i64 lev] w (ValIs E b s (L + 1) (objAt s L i) w) := by
  have hbn := hr.lt
  have HR0 := Lib.hid hr
  have HS := Lib.hid hs
  have HH := Lib.hid h
  have HVA := Lib.hid hv
  have hmk : ∀ w, (Instr.makeMap 130 none).run Tryd.prog w = .ok (.map (some w.heap.size)) (w.alloc (.map #[] 0)) := fun _ => rfl
  have H0 := Lib.hid (obj_start b i s w hs hr)
  clear hr hs h hv
  go_enter Tryd.func87, Tryd.ntmps87
  go_wp2_with fail
  refine (take_ok b s i 123 _ (by omega) H0.out.1 HH.out).mono ?_
  rintro e w1 ⟨rfl, HR1, HG1⟩
  have HO1 := Lib.hid (H0.out.2.1.kept HG1.out hbn)
  have HG2 := Lib.hid (H0.out.2.2.1.trans HG1.out)
  have HM1 := Lib.hid (H0.out.2.2.2.1.kept HG1.out (by simp; omega))
  have HN1 : Hid (w.heap.size + 3 ≤ w1.heap.size) := Nat.le_trans H0.out.2.2.2.2 HG1.out.size
  clear H0 HG1
  go_wp2_with fail
  refine (space_any b s (i + 1) _ (by omega) HR1.out).mono ?_
  rintro e w2 ⟨rfl, HR2, HG1⟩
  have HO2 := Lib.hid (HO1.out.kept HG1.out hbn)
  have HG3 := Lib.hid (HG2.out.trans HG1.out)
  have HM2 := Lib.hid (HM1.out.kept HG1.out (by simp; omega))
  have HN2 : Hid (w.heap.size + 3 ≤ w2.heap.size) := Nat.le_trans HN1.out HG1.out.size
  clear HO1 HG2 HN1 HG1 HR1 HM1
  obtain ⟨z, Hz⟩ : ∃ z, Hid (isAt s (spc s (i + 1)) 125 = z) := ⟨_, rfl⟩
  go_wp2_with fail
  refine (any_is b s (spc s (i + 1)) ⟨#[125]⟩ 125 z _ (by omega) HR2.out rfl Hz.out).mono ?_
  rintro e w3 ⟨rfl, HR3, HG1⟩
  have HO3 := Lib.hid (HO2.out.kept HG1.out hbn)
  have HG4 := Lib.hid (HG3.out.trans HG1.out)
  have HM3 := Lib.hid (HM2.out.kept HG1.out (by simp; omega))
  have HN3 : Hid (w.heap.size + 3 ≤ w3.heap.size) := Nat.le_trans HN2.out HG1.out.size
  clear HO2 HG3 HN2 HG1 HR2 HM2
  cases z with
  | true =>
    have HA : Hid (objAt s L i = (⟨6, ⟨#[]⟩, [], []⟩, ((spc s (i + 1) + 1 : Nat) : Int), 0)) := by show _ = _; unfold objAt; rw [if_pos Hz.out]; simp
    have hv5 : VRow (w.heap.size + 1) (leafA 6 ⟨#[]⟩) w3 := HO3.out.v
    have hv0 := HO3.out.r
    go_wp2_with (first | ((with_reducible refine wpl_load_val hv5 (leafA_size _ _) ?hx ?_); (case hx => rfl)) | ((with_reducible refine wpl_store_leaf (k := 6) (t := ⟨#[]⟩) hv0 ?hx ?hy ?_); (case hx => rfl); (case hy => rfl)))
    (try simp only [Exit.inBlock, Exit.then])
    refine bodyPost_ret (v := .agg (leafA 6 ⟨#[]⟩)) ?_ rfl ?_
    · exact results_val rfl _ _ _ _ rfl HO3.out.r.set rfl
    · have HR4 := HR3.out
      rw [if_pos trivial] at HR4
      exact ValIs.good HA.out ⟨[_, _, _, _], ⟨rfl, HR4.setRow (by omega) _, grown_setRow HG4.out (Nat.le_refl _) _⟩, jdM_leaf _ _ _ _ _ _⟩
  | false =>
    have HA : Hid (objAt s L i = objK s (valAt s L) s.size (spc s (i + 1)) []) := by show _ = _; unfold objAt; rw [if_neg (by rw [Hz.out]; simp)]
    have HR4 : Hid (Rd b s (spc s (i + 1)) w3) := by have := HR3.out; rw [if_neg (by simp)] at this; exact this
    have hi1 := (isAt_lt HH.out).1
    have HQ : Hid (1 ≤ spc s (i + 1) ∧ spc s (i + 1) ≤ s.size) := by have := spc_le s (i + 1) (by omega); exact ⟨by omega, by omega⟩
    clear HR3
    go_wp2_with fail
    go_loopg [] s.size (fun k w' => ∃ (acc : List (ByteArray × JV)) (j : Nat) (lv : Value), Hid (j ≤ s.size ∧ s.size + 1 ≤ j + k ∧ acc.length + 1 ≤ j) ∧ Hid (objK s (valAt s L) k j acc = objAt s L i) ∧ Hid (Rd b s j w') ∧ Hid (w.grownBy w' (some b)) ∧ Hid (Own2 w.heap.size 6 (.slice none 0 0) lv w') ∧ Hid (Seen (w.heap.size + 2) (nms acc) w') ∧ Hid ((jm L).R 50 w' (w.heap.size + 3) (fun k => w.heap.size + 3 ≤ k) lv acc) ∧ Hid (w.heap.size + 3 ≤ w'.heap.size))
    case atStart => exact ⟨[], spc s (i + 1), _, ⟨HQ.out.2, by have := HQ.out; omega, by have := HQ.out; simp; omega⟩, HA.out.symm, HR4.out, HG4.out, HO3.out, HM3.out, Kd.R_nil _ _ _ _ _, HN3.out⟩
    case round =>
      obtain ⟨acc, j, lv, HI, HD, HR, HG, HO, HM, HL, HN⟩ := hrel
      clear HO3 HG4 HN3 HR4 HQ HA HM3
      obtain ⟨k1, rfl⟩ : ∃ k1, gk = k1 + 1 := ⟨gk - 1, by have := HI.out; omega⟩
      go_wp2_with fail
      refine (space_any b s j _ (by omega) HR.out).mono ?_
      rintro e w4 ⟨rfl, HR4, HG4⟩
      have HO4 := Lib.hid (HO.out.kept HG4.out hbn)
      have HM4 := Lib.hid (HM.out.kept HG4.out (by simp; omega))
      have HL4 := Lib.hid (Kd.R_grown HL.out HG4.out (fun k hk e => by injection e with e; omega))
      have HG5 := Lib.hid (HG.out.trans HG4.out)
      have HN4 : Hid (w.heap.size + 3 ≤ w4.heap.size) := Nat.le_trans HN.out HG4.out.size
      clear HR HO HL HG HN HG4 HM
      have HS4 := Lib.hid (HS.out.grown HR0.out HG5.out)
      have HSP : Hid (spc s j ≤ s.size ∧ j ≤ spc s j) := by have := spc_le s j HI.out.1; exact ⟨this.2, this.1⟩
      have c1 := HR4.out.c1
      have hd := HD.out
      unfold objK at hd
      dsimp only at hd
      go_wp2_with fail
      refine (str_any (E := E) b s (spc s j) _ hl HS4.out HR4.out).mono ?_
      intro e w5 ht
      by_cases hs0 : (strAt s (spc s j)).2.2 = 0
      · rw [if_neg (fun e => e hs0)] at hd
        obtain ⟨p, hp1, hp2, hp3⟩ := strAt_range s _ hs0
        obtain ⟨rfl, HR5, HGa⟩ := (Or.resolve_right ht (fun h => h.1 hs0)).2
        have HJ : Hid ((strAt s (spc s j)).2.1.toNat = p) := by show _ = _; rw [hp1]; simp
        rw [HJ.out] at hd HR5
        replace HD := Lib.hid hd
        have HO5 := Lib.hid (HO4.out.kept HGa.out hbn)
        have HM5 := Lib.hid (HM4.out.kept HGa.out (by simp; omega))
        have HL5 := Lib.hid (Kd.R_grown HL4.out HGa.out (fun k hk e => by injection e with e; omega))
        have HG6 := Lib.hid (HG5.out.trans HGa.out)
        have HN5 : Hid (w.heap.size + 3 ≤ w5.heap.size) := Nat.le_trans HN4.out HGa.out.size
        clear hd hs0 ht hp1 HR4 HO4 HM4 HL4 HG5 HN4 HGa HS4 c1
        have hnm := txt_size s (spc s j) hl
        generalize txtOf (strAt s (spc s j)).1 = nm at *
        have HF5 := Lib.hid HM5.out.open
        have hlen : (nms acc).length = acc.length := by simp [nms]
        have hN : (nms acc).length ≤ 1000000 := by have := HI.out; omega
        by_cases hin : ints nm ∈ nms acc
        · have hd := HD.out
          rw [if_pos hin] at hd
          have HA : Hid (objAt s L i = (jz, (spc s j : Int), 7)) := hd.symm
          clear hd HD
          obtain ⟨f, hf, HF⟩ : ∃ f : ByteArray → Int, f nm = 1 ∧ Hid (SeenF (w.heap.size + 2) (nms acc).length f w5) := ⟨_, if_pos hin, HF5.out⟩
          clear HF5 HM5 hin
          go_wp2_with (first | ((with_reducible refine wpl_seen_look HF.out hnm ?hx ?hy ?_); (case hx => rfl); (case hy => rfl)) | ((with_reducible refine wpl_seen_put (c := 2) HF.out hnm hN ⟨by omega, by omega⟩ ?hx ?hy ?hv ?_); (case hx => rfl); (case hy => rfl); (case hv => rfl); intro w6 hF6 hg6; obtain ⟨g, hgn, HF6⟩ : ∃ g : ByteArray → Int, g nm = 2 ∧ Hid (SeenF (w.heap.size + 2) ((nms acc).length + 1) g w6) := ⟨_, if_pos rfl, hF6⟩; have HG7 := Lib.hid (grown_row HG6.out hg6 (by omega)); have HR7 := Lib.hid (Rd.kept HR5.out hg6 (by simp; omega)); have g7 := (HS.out.grown HR0.out HG7.out).c7; clear hF6 hg6 HF) | ((with_reducible refine wpl_seen_look HF6.out hnm ?hx ?hy ?_); (case hx => rfl); (case hy => rfl)))
          refine (throw_any _ _ _).mono ?_
          rintro e w8 ⟨rfl, rfl⟩
          exact ⟨rfl, ValIs.bad HA.out (by omega) (thr_new (k := 7) rfl (by omega) (by omega) HG7.out HR7.out)⟩
        · have hd := HD.out
          rw [if_neg hin] at hd
          replace HD := Lib.hid hd
          clear hd
          obtain ⟨f, hf, hfo, HF⟩ : ∃ f : ByteArray → Int, f nm = 0 ∧ Hid (∀ t, f t = if ints t ∈ nms acc then 1 else 0) ∧ Hid (SeenF (w.heap.size + 2) (nms acc).length f w5) := ⟨_, if_neg hin, fun _ => rfl, HF5.out⟩
          clear HF5 HM5 hin
          go_wp2_with (first | ((with_reducible refine wpl_seen_look HF.out hnm ?hx ?hy ?_); (case hx => rfl); (case hy => rfl)) | ((with_reducible refine wpl_seen_put (c := 1) HF.out hnm hN ⟨by omega, by omega⟩ ?hx ?hy ?hv ?_); (case hx => rfl); (case hy => rfl); (case hv => rfl); intro w6 hF6 hg6; obtain ⟨g, hgn, hgo, HF6⟩ : ∃ g : ByteArray → Int, g nm = 1 ∧ Hid (∀ u, u ≠ nm → g u = f u) ∧ Hid (SeenF (w.heap.size + 2) ((nms acc).length + 1) g w6) := ⟨fun u => if u = nm then 1 else f u, if_pos rfl, fun u hu => if_neg hu, hF6⟩; have HG7 := Lib.hid (grown_row HG6.out hg6 (by omega)); have HR7 := Lib.hid (Rd.kept HR5.out hg6 (by simp; omega)); have HO7 : Hid (Own2 w.heap.size 6 (.slice none 0 0) lv w6) := ⟨HO5.out.r.kept hg6 (by simp), HO5.out.v.kept hg6 (by simp)⟩; have HL7 := Lib.hid (Kd.R_grown HL5.out hg6 (fun k hk e => by injection e with e; omega)); have HN7 : Hid (w.heap.size + 3 ≤ w6.heap.size) := Nat.le_trans HN5.out hg6.size; clear hF6 hg6 HF) | ((with_reducible refine wpl_seen_look HF6.out hnm ?hx ?hy ?_); (case hx => rfl); (case hy => rfl)))
          have HM7 : Hid (Seen (w.heap.size + 2) (nms acc ++ [ints nm]) w6) := by
            refine SeenF.seen (f := g) ?_ ?_
            · have := HF6.out
              rw [List.length_append, List.length_singleton]
              exact this
            · intro u
              by_cases e : u = nm
              · rw [e, hgn, if_pos (by simp)]
              · rw [hgo.out u e, hfo.out u]
                have : ints u ∈ nms acc ++ [ints nm] ↔ ints u ∈ nms acc := by
                  rw [List.mem_append, List.mem_singleton]
                  exact ⟨fun h => h.resolve_right (fun h => e (ints_inj h)), .inl⟩
                simp only [this]
          clear HF6 hgo hfo hgn hf HR5 HO5 HL5 HG6 HN5
          refine (space_any b s p _ (by omega) HR7.out).mono ?_
          rintro e w8 ⟨rfl, HR8, HG8⟩
          have HO8 := Lib.hid (HO7.out.kept HG8.out hbn)
          have HM8 := Lib.hid (HM7.out.kept HG8.out (by simp; omega))
          have HL8 := Lib.hid (Kd.R_grown HL7.out HG8.out (fun k hk e => by injection e with e; omega))
          have HG9 := Lib.hid (HG7.out.trans HG8.out)
          have HN8 : Hid (w.heap.size + 3 ≤ w8.heap.size) := Nat.le_trans HN7.out HG8.out.size
          have HS8 := Lib.hid (HS.out.grown HR0.out HG9.out)
          clear HO7 HM7 HL7 HG7 HN7 HR7 HG8
          have hs1 := spc_le s p hp3
          generalize spc s p = i2 at *
          by_cases h58 : isAt s i2 58 = false
          · have hd := HD.out
            rw [if_pos h58] at hd
            have HA : Hid (objAt s L i = (jz, (badAt s i2).1, (badAt s i2).2)) := hd.symm
            have H58 := Lib.hid h58
            clear hd h58
            go_wp2_with fail
            refine (take_bad (E := E) b s i2 58 _ (by omega) HS8.out HR8.out H58.out).mono ?_
            rintro e w9 ⟨p2, rfl, h1, h2, h3⟩
            exact ⟨rfl, ValIs.bad HA.out (badAt_ne _ _) ⟨p2, rfl, h1, HG9.out.trans h2.out, h3⟩⟩
          · have hd := HD.out
            rw [if_neg h58] at hd
            have H58 : Hid (isAt s i2 58 = true) := by show _ = _; simpa using h58
            replace HD := Lib.hid hd
            clear hd h58
            go_wp2_with fail
            refine (take_ok b s i2 58 _ (by omega) HR8.out H58.out).mono ?_
            rintro e w9 ⟨rfl, HR9, HGb⟩
            have HO9 := Lib.hid (HO8.out.kept HGb.out hbn)
            have HM9 := Lib.hid (HM8.out.kept HGb.out (by simp; omega))
            have HL9 := Lib.hid (Kd.R_grown HL8.out HGb.out (fun k hk e => by injection e with e; omega))
            have HG10 := Lib.hid (HG9.out.trans HGb.out)
            have HN9 : Hid (w.heap.size + 3 ≤ w9.heap.size) := Nat.le_trans HN8.out HGb.out.size
            clear HO8 HM8 HL8 HG9 HN8 HS8 HR8 HGb
            go_wp2_with fail
            refine (space_any b s (i2 + 1) _ (by omega) HR9.out).mono ?_
            rintro e w10 ⟨rfl, HR10, HGb⟩
            have HO10 := Lib.hid (HO9.out.kept HGb.out hbn)
            have HM10 := Lib.hid (HM9.out.kept HGb.out (by simp; omega))
            have HL10 := Lib.hid (Kd.R_grown HL9.out HGb.out (fun k hk e => by injection e with e; omega))
            have HG11 := Lib.hid (HG10.out.trans HGb.out)
            have HN10 : Hid (w.heap.size + 3 ≤ w10.heap.size) := Nat.le_trans HN9.out HGb.out.size
            have HS10 := Lib.hid (HS.out.grown HR0.out HG11.out)
            clear HO9 HM9 HL9 HG10 HN9 HR9 HGb
            have hc3 := HO10.out.v.cell 3 lv rfl
            have hf3 := HO10.out.v.frozen 3
            go_wp2_with fail
            have HW : Hid (IntKind.i64.wrap (32 - (L : Int) + 1) = 33 - L) := by show _ = _; rw [IntKind.wrap_i64]; omega
            have hi2 := (isAt_lt H58.out).1
            have hs2 := spc_le s (i2 + 1) (by omega)
            generalize spc s (i2 + 1) = i3 at *
            by_cases hv0 : (valAt s L i3).2.2 = 0
            · have hd := HD.out
              rw [if_neg (fun e => e hv0)] at hd
              obtain ⟨q0, hq1, hq2, hq3⟩ := valAt_ends s L _ hv0
              have HV0 := Lib.hid hv0
              have HJ : Hid ((valAt s L i3).2.1.toNat = q0) := by show _ = _; rw [hq1]; simp
              rw [HJ.out] at hd
              replace HD := Lib.hid hd
              clear hd hv0 hq1
              have HV := Lib.hid (fun (W : World) (h1 : Sents E W) (h2 : Rd b s i3 W) => value_ok HVA.out b s i3 W _ HW.out hl h1 h2 hs2.2 HV0.out)
              rw [HJ.out] at HV
              generalize (valAt s L i3).1 = x at *
              have HOK : Hid (∀ k, w10.heap.size ≤ k → w.heap.size + 3 ≤ k ∧ some k ≠ lv.ownBlock) := fun k hk => ⟨Nat.le_trans HN10.out hk, fun e => by have := Kd.R_lt HL10.out k e.symm; omega⟩
              have HZ : Hid ((Tryd.prog.info? 50).map (fun i => (i.zero, i.size, i.bytes)) = some (some (.agg #[.string ⟨#[]⟩, .int .i64 0, .string ⟨#[]⟩, .slice none 0 0, .slice none 0 0]), (jm L).sz, 88)) := by show _ = _; rw [jm_sz L]; exact info_m
              have HZ1 : Hid ((Value.agg #[.string ⟨#[]⟩, .int .i64 0, .string ⟨#[]⟩, .slice none 0 0, .slice none 0 0]).cells.size = (jm L).sz) := by show _ = _; rw [jm_sz L]; rfl
              have HZ2 : Hid (0 < (jm L).sz) := by show _ < _; rw [jm_sz L]; omega
              have HLEN : Hid ((acc.length + 1) * 88 ≤ 140737488355328) := by have := HI.out; show _ ≤ _; omega
              go_region_law
                (first
                  | (go_simp; go_at_call 52; refine (HV.out _ (by exact HS10.out.heap' rfl) (by exact HR10.out)).mono ?_; rintro e w11 ⟨A2, c2, A3, c3, ⟨rfl, HR11, HGa⟩, HMx⟩; have HGa0 := Lib.hid (World.grownBy.trans (grown_drewN w10 1 (some b)) HGa.out); have HO11 := Lib.hid (HO10.out.kept HGa0.out hbn); have HL11 := Lib.hid (Kd.R_grown HL10.out HGa0.out (fun k hk e => by injection e with e; omega)); have HG12 := Lib.hid (HG11.out.trans HGa0.out); have HM11 := Lib.hid (HM10.out.kept HGa0.out (by simp; omega)); have HN11 : Hid (w.heap.size + 3 ≤ w11.heap.size) := Nat.le_trans HN10.out HGa0.out.size; have hc11 := HO11.out.v.cell 3 lv rfl; have hc12 : ∀ o, (w11.alloc o).cell? ⟨w.heap.size + 1, 3, none⟩ = some lv := fun o => (World.cell?_alloc_lt w11 o ⟨w.heap.size + 1, 3, none⟩ (by have := HN11.out; simp; omega)).trans hc11; have HMm : Hid ((jm L).M w11 (w.heap.size + 3) (fun k => w10.heap.size ≤ k) (nm, x) (.string nm :: jcells x A2 c2 A3 c3)) := ⟨[_], _, rfl, rfl, (jd L).M_lower HN10.out HMx.out⟩)
                  | (refine Kd.R_append_step (jm L) (w0 := w11) (W := w11) (w.heap.size + 3) (by rfl) _ _ 24 50 _ 88 (by rfl) Tryd.underlying24 HZ.out HZ1.out HZ2.out (by omega) lv acc (nm, x) (.string nm :: jcells x A2 c2 A3 c3) (fun k => w.heap.size + 3 ≤ k) (fun k => w10.heap.size ≤ k) (by rfl) (by rfl) HMm.out HOK.out (fun k hk => Nat.le_trans HN11.out hk) HL11.out (Below.refl _ _) HN11.out HLEN.out ?_; intro v1 w13 ho hb hg7 hat; obtain ⟨A7, cc7, hv1⟩ := Kd.R_slice ho; rw [List.length_append, List.length_singleton] at hv1; subst hv1; have HL13 := Lib.hid ho; have HB13 := Lib.hid hb; have hv13 : VRow (w.heap.size + 1) #[.int .i64 6, .string ⟨#[]⟩, .slice none 0 0, lv] w13 := (hb.block _ (by omega)).trans HO11.out.v; have hc13 := hv13.cell 3 lv rfl; have hf13 := hv13.frozen 3; clear ho hb hg7 hat hv13))
              all_goals
                have H8 := Lib.hid (elem_done_m hbn HR11.out HO11.out HG12.out HN11.out HB13.out HM11.out HL13.out)
                clear HR11 HO11 HG12 HN11 HB13 HL13 hc11 hc12 hc13 hf13 HMm HL11 HGa0 HGa HMx hc3 hf3 HM11 HM10 HO10 HL10
                generalize w13.setCell ⟨w.heap.size + 1, 3, none⟩ (.slice A7 (acc.length + 1) cc7) = w8' at H8 ⊢
                go_wp2_with fail
                refine (space_any b s q0 _ (by omega) H8.out.1).mono ?_
                rintro e w9 ⟨rfl, HR9, HG9⟩
                have HO9 := Lib.hid (H8.out.2.1.kept HG9.out hbn)
                have HL9 := Lib.hid (Kd.R_grown H8.out.2.2.2.2.1 HG9.out (fun k hk e => by injection e with e; omega))
                have HG10 := Lib.hid (H8.out.2.2.1.trans HG9.out)
                have HN9 : Hid (w.heap.size + 3 ≤ w9.heap.size) := Nat.le_trans H8.out.2.2.2.1 HG9.out.size
                have HS9 := Lib.hid (HS.out.grown HR0.out HG10.out)
                have HM9 := Lib.hid (H8.out.2.2.2.2.2.kept HG9.out (by simp; omega))
                clear H8 HG9
                obtain ⟨q, Hq⟩ : ∃ q, Hid (spc s q0 = q) := ⟨_, rfl⟩
                rw [Hq.out] at HR9 HD
                have HQ : Hid (q0 ≤ q ∧ q ≤ s.size) := by rw [← Hq.out]; exact spc_le s q0 hq3
                by_cases hq : q < s.size
                · have HPK := Lib.hid (peek_ok b s q w9 (by omega) HR9.out hq)
                  go_wp2_with fail
                  refine HPK.out.mono ?_
                  rintro e w10 ⟨rfl, HR10, HG11⟩
                  have HO10 := Lib.hid (HO9.out.kept HG11.out hbn)
                  have HL10 := Lib.hid (Kd.R_grown HL9.out HG11.out (fun k hk e => by injection e with e; omega))
                  have HG12 := Lib.hid (HG10.out.trans HG11.out)
                  have HN10 : Hid (w.heap.size + 3 ≤ w10.heap.size) := Nat.le_trans HN9.out HG11.out.size
                  have HM10' := Lib.hid (HM9.out.kept HG11.out (by simp; omega))
                  clear HPK HR9 HM9 HO9 HL9 HG10 HN9 HS9 HG11
                  obtain ⟨z2, Hz2⟩ : ∃ z2, Hid (isAt s q 125 = z2) := ⟨_, rfl⟩
                  go_wp2_with fail
                  refine (any_is b s q ⟨#[125]⟩ 125 z2 _ (by omega) HR10.out rfl Hz2.out).mono ?_
                  rintro e w11 ⟨rfl, HR11, HG11⟩
                  have HO11 := Lib.hid (HO10.out.kept HG11.out hbn)
                  have HL11 := Lib.hid (Kd.R_grown HL10.out HG11.out (fun k hk e => by injection e with e; omega))
                  have HG13 := Lib.hid (HG12.out.trans HG11.out)
                  have HN11 : Hid (w.heap.size + 3 ≤ w11.heap.size) := Nat.le_trans HN10.out HG11.out.size
                  have HM11' := Lib.hid (HM10'.out.kept HG11.out (by simp; omega))
                  clear HR10 HM10' HO10 HL10 HG12 HN10 HG11
                  cases z2 with
                  | true =>
                    have hd := HD.out
                    rw [if_pos Hz2.out] at hd
                    have HA : Hid (objAt s L i = (⟨6, ⟨#[]⟩, [], acc ++ [(nm, x)]⟩, ((q + 1 : Nat) : Int), 0)) := by show _ = _; rw [← hd]; simp
                    clear hd
                    have hv5 : VRow (w.heap.size + 1) #[.int .i64 6, .string ⟨#[]⟩, .slice none 0 0, .slice A7 (acc.length + 1) cc7] w11 := HO11.out.v
                    have hv0 := HO11.out.r
                    go_wp2_with (first | ((with_reducible refine wpl_load_arr hv5 ?hx ?_); (case hx => rfl)) | ((with_reducible refine wpl_store_row4 (k := 6) (t := ⟨#[]⟩) (A2 := none) (n2 := 0) (c2 := 0) (A3 := A7) (n3 := acc.length + 1) (c3 := cc7) hv0 ?hx ?hy ?_); (case hx => rfl); (case hy => rfl)))
                    (try simp only [Exit.inBlock, Exit.then])
                    refine bodyPost_ret (v := .agg #[.int .i64 6, .string ⟨#[]⟩, .slice none 0 0, .slice A7 (acc.length + 1) cc7]) ?_ rfl ?_
                    · exact results_val rfl _ _ _ _ rfl HO11.out.r.set rfl
                    · have HR12 := HR11.out
                      rw [if_pos trivial] at HR12
                      refine ValIs.good HA.out ⟨[_, _, _, _], ⟨rfl, HR12.setRow (by omega) _, grown_setRow HG13.out (Nat.le_refl _) _⟩, ?_⟩
                      exact jdM_obj 6 ⟨#[]⟩ (Kd.R_lower (Kd.R_mono (Kd.R_step HL11.out (fun k hk _ => setRow_other _ _ _ _ (by omega))) (fun k hk => by omega)) (by omega))
                  | false =>
                    have HR12 : Hid (Rd b s q w11) := by have := HR11.out; rw [if_neg (by simp)] at this; exact this
                    have HS12 := Lib.hid (HS.out.grown HR0.out HG13.out)
                    have hd := HD.out
                    rw [if_neg (by rw [Hz2.out]; simp)] at hd
                    replace HD := Lib.hid hd
                    clear hd HR11
                    by_cases h44 : isAt s q 44 = true
                    · have hd := HD.out
                      rw [if_pos h44] at hd
                      replace HD := Lib.hid hd
                      have HH44 := Lib.hid h44
                      clear hd h44
                      go_wp2_with fail
                      refine (take_ok b s q 44 _ (by omega) HR12.out HH44.out).mono ?_
                      rintro e w13 ⟨rfl, HR13, HG14⟩
                      have HO13 := Lib.hid (HO11.out.kept HG14.out hbn)
                      have HL13 := Lib.hid (Kd.R_grown HL11.out HG14.out (fun k hk e => by injection e with e; omega))
                      have HG15 := Lib.hid (HG13.out.trans HG14.out)
                      have HN13 : Hid (w.heap.size + 3 ≤ w13.heap.size) := Nat.le_trans HN11.out HG14.out.size
                      have HM13 := Lib.hid (HM11'.out.kept HG14.out (by simp; omega))
                      clear HO11 HL11 HG13 HN11 HG14 HR12 HS12
                      go_wp2_with fail
                      go_roundg k1
                      case measure => omega
                      case rel => exact ⟨acc ++ [(nm, x)], q + 1, _, ⟨by omega, by have := HI.out; have := HQ.out; have := HSP.out; omega, by have := HI.out; have := HQ.out; have := HSP.out; simp; omega⟩, HD.out, HR13.out, HG15.out, HO13.out, (by rw [show nms (acc ++ [(nm, x)]) = nms acc ++ [ints nm] by simp [nms]]; exact HM13.out), HL13.out, HN13.out⟩
                    · have hd := HD.out
                      rw [if_neg h44] at hd
                      have HA : Hid (objAt s L i = (jz, (badAt s q).1, (badAt s q).2)) := hd.symm
                      have HH44 := Lib.hid (Bool.eq_false_iff.2 h44)
                      clear hd h44
                      go_wp2_with fail
                      refine (take_bad (E := E) b s q 44 _ (by omega) HS12.out HR12.out HH44.out).mono ?_
                      rintro e w13 ⟨p2, rfl, h1, h2, h3⟩
                      exact ⟨rfl, ValIs.bad HA.out (badAt_ne _ _) ⟨p2, rfl, h1, HG13.out.trans h2.out, h3⟩⟩
                · have hd := HD.out
                  rw [if_neg (by simp [isAt, hq]), if_neg (by simp [isAt, hq])] at hd
                  have HA : Hid (objAt s L i = (jz, (s.size : Int), 2)) := by show _ = _; rw [← hd]; unfold badAt; rw [if_pos (by omega)]
                  clear hd
                  have HPK := Lib.hid (peek_end (E := E) b s q w9 (by omega) HS9.out HR9.out (by omega))
                  go_wp2_with fail
                  refine HPK.out.mono ?_
                  rintro e w10 ⟨p2, rfl, h1, h2, h3⟩
                  exact ⟨rfl, ValIs.bad HA.out (by omega) ⟨p2, rfl, h1, HG10.out.trans h2.out, h3⟩⟩
            · have hd := HD.out
              rw [if_pos hv0] at hd
              have HA : Hid (objAt s L i = (jz, (valAt s L i3).2.1, (valAt s L i3).2.2)) := hd.symm
              have HV0 := Lib.hid hv0
              clear hd hv0
              go_region_dies
              all_goals
                refine (value_bad HVA.out b s i3 _ _ (by first | exact HW.out | omega) hl (by exact HS10.out.heap' rfl) (by exact HR10.out) hs2.2 HV0.out).mono ?_
                intro e w11 ht
                have HT := Lib.hid ht
                obtain ⟨p, rfl, h1, h2, h3⟩ := ht
                exact ⟨rfl, ValIs.bad HA.out HV0.out ⟨p, rfl, h1, HG11.out.trans ((grown_drewN _ _ _).trans h2.out), h3⟩⟩
      · rw [if_pos hs0] at hd
        have HD2 : Hid (objAt s L i = (jz, (strAt s (spc s j)).2.1, (strAt s (spc s j)).2.2)) := hd.symm
        have HV0 := Lib.hid hs0
        obtain ⟨p, rfl, h1, h2, h3⟩ := (Or.resolve_left ht (fun h => hs0 h.1)).2
        clear hd hs0 ht
        exact ⟨rfl, ValIs.bad HD2.out HV0.out ⟨p, rfl, h1, HG5.out.trans h2.out, h3⟩⟩
end
end Go.Proofs.YtpdpgppaoipnlaaDoor

