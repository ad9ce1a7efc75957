/- What the claim uses of the text J2. -/
import Derived.Test.YtpdpgppaoipnlaaDoorVJ1
import Derived.Laws.Tables
import Derived.Laws.ResultCell
import Derived.Test.YtpdpgppaoipnlaaDoorVUtfX
set_option linter.unusedVariables false
set_option linter.unusedSimpArgs false
namespace Go.Proofs.YtpdpgppaoipnlaaDoor
section
open Go.RowKit Go.PlainAid

/-- The variables of low's own: the reader's address, the result, the place. -/
structure LowV (n b i : Nat) (w : World) : Prop where
  d : w.cell? ⟨n, 0, none⟩ = some (.pointer (some ⟨b, 0, none⟩))
  r : ∃ x, w.cell? ⟨n + 1, 0, none⟩ = some (.int .i32 x)
  f : w.frozen? ⟨n + 1, 0, none⟩ = false
  p : w.cell? ⟨n + 2, 0, none⟩ = some (.int .i64 i)
theorem LowV.grown {n b i : Nat} {w w' : World} (h : LowV n b i w) (hg : w.grownBy w' (some b)) (hb : b < n) : LowV n b i w' := by
  obtain ⟨x, hx⟩ := h.r
  have hlt : n + 1 < w.heap.size := World.block_lt_of_cell? w _ hx
  exact ⟨hg.cell h.d (by simp; omega), ⟨x, hg.cell hx (by simp; omega)⟩, by rw [World.frozen?_of_block (hg.block (n + 1) hlt (by simp; omega))]; exact h.f, hg.cell h.p (by simp; omega)⟩

theorem LowV.store {n b i : Nat} {w : World} (h : LowV n b i w) (x : Int) : LowV n b i (w.setCell ⟨n + 1, 0, none⟩ (.int .i32 x)) := by
  obtain ⟨y, hy⟩ := h.r
  exact ⟨(World.cell?_of_block (Below.heap_setCell w ⟨n + 1, 0, none⟩ _ n (by simp))).trans h.d, ⟨x, World.cell?_setCell_same _ _ _ hy⟩, by rw [World.frozen?_setCell]; exact h.f, (World.cell?_of_block (Below.heap_setCell w ⟨n + 1, 0, none⟩ _ (n + 2) (by simp))).trans h.p⟩
theorem Sents.store {E : Nat → Addr} {w : World} {k : Nat} {x : Int} (h : Sents E w) (hk : w.cell? ⟨k, 0, none⟩ = some (.int .i32 x)) (v : Value) : Sents E (w.setCell ⟨k, 0, none⟩ v) := by
  have key : ∀ {g : Nat} {t : TypeId} {u : Value}, w.cell? ⟨g, 0, none⟩ = some (.iface t u) → (w.setCell ⟨k, 0, none⟩ v).cell? ⟨g, 0, none⟩ = some (.iface t u) := by
    intro g t u hg
    have : g ≠ k := by intro e; subst e; rw [hk] at hg; simp at hg
    exact (World.cell?_of_block (Below.heap_setCell w ⟨k, 0, none⟩ _ g this)).trans hg
  exact ⟨key h.et, key h.c1, key h.c2, fun a => key (h.c3 a), key h.c4, key h.c5, fun a => key (h.c6 a), key h.c7, fun a => key (h.c8 a), key h.c9, fun a => key (h.c10 a), fun a => key (h.c11 a), fun a => key (h.c12 a), fun a => key (h.c13 a), fun a => key (h.c14 a), fun a => key (h.c15 a), fun a => key (h.c16 a), key h.c17, fun a => key (h.c18 a)⟩

end

section
open Go.RowKit Go.PlainAid

def EscIs (E : Nat → Addr) (b : Nat) (s : ByteArray) (fr : Nat) (w : World) (e : Ending) (w' : World) : Prop :=
  ((escAt s fr).2.2 = 0 ∧ Ret b s (.int .i32 (escAt s fr).1) (escAt s fr).2.1.toNat w e w') ∨ ((escAt s fr).2.2 ≠ 0 ∧ Thr E b s (escAt s fr).2.1 (escAt s fr).2.2 w e w')
theorem EscIs.good {E : Nat → Addr} {b : Nat} {s : ByteArray} {fr j : Nat} {r : Int} {w w' : World} {e : Ending} (h : escAt s fr = (r, (j : Int), 0)) (hr : Ret b s (.int .i32 r) j w e w') : EscIs E b s fr w e w' := .inl (by rw [h]; exact ⟨rfl, hr⟩)
theorem EscIs.bad {E : Nat → Addr} {b : Nat} {s : ByteArray} {fr : Nat} {r p n : Int} {w w' : World} {e : Ending} (h : escAt s fr = (r, p, n)) (hn : n ≠ 0) (hr : Thr E b s p n w e w') : EscIs E b s fr w e w' := .inr (by rw [h]; exact ⟨hn, hr⟩)
end


section
open Go.RowKit Go.PlainAid

/-- A block that holds one value. -/
def VRow (b : Nat) (cs : Array Value) (w : World) : Prop := w.heap[b]? = some (.cells cs 26 (0, 0))
theorem info_val : (Tryd.prog.info? 26).map (·.size) = some 4 := by kernel_rfl
theorem VRow.lt {b : Nat} {cs : Array Value} {w : World} (h : VRow b cs w) : b < w.heap.size := (Array.getElem?_eq_some_iff.1 h).1
theorem VRow.new (w : World) (cs : Array Value) : VRow w.heap.size cs (w.alloc (.cells cs 26)) := Go.heap_alloc_new w _
theorem VRow.kept {b : Nat} {cs : Array Value} {w w' : World} {row : Option Nat} (h : VRow b cs w) (hg : w.grownBy w' row) (hr : some b ≠ row) : VRow b cs w' := (hg.block b h.lt hr).trans h
theorem VRow.set {b : Nat} {cs ds : Array Value} {w : World} (h : VRow b cs w) : VRow b ds (w.setRow b ds) := by
  unfold VRow at *
  simp [World.setRow, Array.getElem?_modify, h]
theorem Rd.setRow {b i : Nat} {s : ByteArray} {w : World} (h : Rd b s i w) {g : Nat} (hg : g ≠ b) (ds : Array Value) : Rd b s i (w.setRow g ds) := by
  unfold Rd at *
  simp only [World.setRow]
  rw [Array.getElem?_modify, if_neg hg]
  exact h
theorem results_val {fn : Func} {p : Tmp} (h : fn.results = #[.cell p 26]) (tmps : Array Value) (w : World) (g : Nat) (cs : Array Value) (hp : tmps.getD p undef = .pointer (some ⟨g, 0, none⟩)) (hg : VRow g cs w) (hs : cs.size = 4) :
    (results fn tmps).run Tryd.prog w = .ok (.agg cs) w :=
  results_cell_row h tmps w g 26 cs (0, 0) _ hp hg Tryd.underlying26 rfl (by rw [hs]; exact info_val)

/-- A value without list and members. -/
def leafA (k : Int) (t : ByteArray) : Array Value := #[.int .i64 k, .string t, .slice none 0 0, .slice none 0 0]

end

section
open Go.RowKit Go.PlainAid
open Go.Proofs.YtpdpgppaoipnlaaDoorW.PrintWords hiding bt
open Go.Proofs.YtpdpgppaoipnlaaDoorW.PrintMore

theorem Sents.heap {E : Nat → Addr} {w w' : World} (h : Sents E w) (hh : w'.heap = w.heap) (h1 : w'.os = w.os := by rfl) (h2 : w'.tape = w.tape := by rfl) (h3 : w'.output = w.output := by rfl) : Sents E w' := h.below ⟨h1, h2, h3, by rw [hh]; exact Nat.le_refl _, fun k _ => by rw [hh]⟩
def StrIs (E : Nat → Addr) (b : Nat) (s : ByteArray) (i : Nat) (w : World) (e : Ending) (w' : World) : Prop :=
  ((strAt s i).2.2 = 0 ∧ Ret b s (.string (txtOf (strAt s i).1)) (strAt s i).2.1.toNat w e w') ∨ ((strAt s i).2.2 ≠ 0 ∧ Thr E b s (strAt s i).2.1 (strAt s i).2.2 w e w')
theorem StrIs.good {E : Nat → Addr} {b : Nat} {s : ByteArray} {i j : Nat} {l : List Int} {w w' : World} {e : Ending} (h : strAt s i = (l, (j : Int), 0)) (hr : Ret b s (.string (txtOf l)) j w e w') : StrIs E b s i w e w' := .inl (by rw [h]; exact ⟨rfl, hr⟩)
theorem StrIs.bad {E : Nat → Addr} {b : Nat} {s : ByteArray} {i : Nat} {l : List Int} {p n : Int} {w w' : World} {e : Ending} (h : strAt s i = (l, p, n)) (hn : n ≠ 0) (hr : Thr E b s p n w e w') : StrIs E b s i w e w' := .inr (by rw [h]; exact ⟨hn, hr⟩)
theorem grown_base {w W w1 : World} {b : Nat} (hg : w.grownBy W (some b)) (hb : Below w.heap.size W w1) : w.grownBy w1 (some b) :=
  ⟨hb.os.trans hg.os, hb.tape.trans hg.tape, hb.output.trans hg.output, by have := hg.size; have := hb.size; omega, fun k hk hne => (hb.block k hk).trans (hg.block k hk hne)⟩

end

section
open Go.RowKit Go.PlainAid

theorem dgs_lt (s : ByteArray) (i : Nat) (h : digAt s i = true) : i < dgs s i ∧ dgs s i ≤ s.size := by
  have hi : i < s.size := by unfold digAt at h; simp at h; exact h.1
  obtain ⟨k, hk⟩ : ∃ k, s.size - i = k + 1 := ⟨s.size - i - 1, by omega⟩
  unfold dgs
  rw [hk]
  unfold digs
  rw [if_pos h]
  have := digs_le s k (i + 1) (by omega)
  omega
end

end Go.Proofs.YtpdpgppaoipnlaaDoor

