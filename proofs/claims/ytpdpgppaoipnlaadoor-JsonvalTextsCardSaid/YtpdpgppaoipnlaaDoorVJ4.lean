/- What the claim uses of the text J4. -/
import Derived.Test.YtpdpgppaoipnlaaDoorVJ3
set_option linter.unusedVariables false
set_option linter.unusedSimpArgs false
namespace Go.Proofs.YtpdpgppaoipnlaaDoor
section
open Go.RowKit Go.PlainAid Go.Extern.Stop Go.Stop Go.Extern
open Go.Proofs.YtpdpgppaoipnlaaDoorW.PrintWords hiding bt
open Go.Proofs.YtpdpgppaoipnlaaDoorW.PrintMore

/-- A block of one cell. -/
def Cl (b : Nat) (v : Value) (t : TypeId) (w : World) : Prop := w.heap[b]? = some (.cells #[v] t (0, 0))
theorem Cl.cell {b : Nat} {v : Value} {t : TypeId} {w : World} (h : Cl b v t w) : w.cell? ⟨b, 0, none⟩ = some v := by rw [Lib.cell_of_heap h]; rfl
theorem Cl.frozen {b : Nat} {v : Value} {t : TypeId} {w : World} (h : Cl b v t w) : w.frozen? ⟨b, 0, none⟩ = false := Lib.frozen_of_heap h 0
theorem Cl.lt {b : Nat} {v : Value} {t : TypeId} {w : World} (h : Cl b v t w) : b < w.heap.size := (Array.getElem?_eq_some_iff.1 h).1
theorem Cl.kept {b : Nat} {v : Value} {t : TypeId} {w w' : World} {row : Option Nat} (h : Cl b v t w) (hg : w.grownBy w' row) (hr : some b ≠ row) : Cl b v t w' := (hg.block b h.lt hr).trans h
theorem Cl.below {b : Nat} {v : Value} {t : TypeId} {w w' : World} (h : Cl b v t w) (hb : Below w.heap.size w w') : Cl b v t w' := (hb.block b h.lt).trans h
theorem Cl.set {b : Nat} {v : Value} {t : TypeId} {w : World} (h : Cl b v t w) (u : Value) : Cl b u t (w.setCell ⟨b, 0, none⟩ u) := by
  unfold Cl at *
  simp [World.setCell, Array.getElem?_modify, h]
theorem Cl.far {b : Nat} {v : Value} {t : TypeId} {w : World} (h : Cl b v t w) {c o : Nat} (hc : c ≠ b) (u : Value) : Cl b v t (w.setCell ⟨c, o, none⟩ u) := by
  unfold Cl at *
  simp [World.setCell, Array.getElem?_modify, h, hc]
theorem Cl.new (w : World) (v : Value) (t : TypeId) : Cl w.heap.size v t (w.alloc (.cells #[v] t)) := Go.heap_alloc_new w _
theorem Cl.old {b : Nat} {v : Value} {t : TypeId} {w : World} (h : Cl b v t w) (o : Obj) : Cl b v t (w.alloc o) := (Go.heap_alloc_old _ _ h.lt).trans h

/-- The results' own variables. -/
structure Res3 (n : Nat) (v0 : Value) (t0 : TypeId) (v1 v2 : Value) (w : World) : Prop where
  a : Cl n v0 t0 w
  b : Cl (n + 1) v1 3 w
  c : Cl (n + 2) v2 28 w
theorem Res3.kept {n b : Nat} {v0 v1 v2 : Value} {t0 : TypeId} {w w' : World} (h : Res3 n v0 t0 v1 v2 w) (hg : w.grownBy w' (some b)) (hb : n + 2 < b) : Res3 n v0 t0 v1 v2 w' :=
  ⟨h.a.kept hg (by simp; omega), h.b.kept hg (by simp; omega), h.c.kept hg (by simp; omega)⟩
end

section
open Go.RowKit Go.PlainAid Go.Extern.Stop Go.Stop Go.Extern
open Go.Proofs.YtpdpgppaoipnlaaDoorW.PrintWords hiding bt
open Go.Proofs.YtpdpgppaoipnlaaDoorW.PrintMore

structure Res4 (n : Nat) (cs : Array Value) (v1 v2 : Value) (w : World) : Prop where
  a : VRow n cs w
  b : Cl (n + 1) v1 3 w
  c : Cl (n + 2) v2 28 w
theorem Res4.kept {n b : Nat} {cs : Array Value} {v1 v2 : Value} {w w' : World} (h : Res4 n cs v1 v2 w) (hg : w.grownBy w' (some b)) (hb : n + 2 < b) : Res4 n cs v1 v2 w' :=
  ⟨h.a.kept hg (by simp; omega), h.b.kept hg (by simp; omega), h.c.kept hg (by simp; omega)⟩
end

section
open Go.RowKit Go.PlainAid
open Go.Proofs.YtpdpgppaoipnlaaDoorW.PrintWords hiding bt
open Go.Proofs.YtpdpgppaoipnlaaDoorW.PrintMore

theorem ErrV.setRow {E : Nat → Addr} {w : World} {v : Value} {a c : Int} (h : ErrV E w v a c) {g : Nat} {cs : Array Value} (hg : VRow g cs w) (h0 : ∃ x ds, cs = #[.int .i64 x, .string ds, .slice none 0 0, .slice none 0 0]) (ds : Array Value) : ErrV E (w.setRow g ds) v a c := by
  rcases h with h | ⟨h1, h2, b, h3, h4, h5⟩
  · exact .inl h
  · obtain ⟨x, d, rfl⟩ := h0
    have hne : b ≠ g := by
      rintro rfl
      rw [Lib.cell_of_heap hg] at h5
      simp at h5
    exact .inr ⟨h1, h2, b, h3, (World.cell?_of_block (setRow_other _ _ _ _ hne)).trans h4, (World.cell?_of_block (setRow_other _ _ _ _ hne)).trans h5⟩
end
end Go.Proofs.YtpdpgppaoipnlaaDoor

