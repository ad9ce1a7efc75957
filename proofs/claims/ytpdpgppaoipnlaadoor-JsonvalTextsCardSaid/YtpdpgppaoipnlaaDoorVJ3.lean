/- What the claim uses of the text J3. -/
import Derived.Test.YtpdpgppaoipnlaaDoorVJ2
import Derived.Test.YtpdpgppaoipnlaaDoorVPAllx0
import Derived.Deep.RegionHeld3
import Derived.Deep.RegionLaw
import Derived.Deep.DrawnRows
import Derived.Maps.Own
import Derived.Maps.OwnOps
import Derived.Maps.Keyed
import Derived.Maps.Views
set_option linter.unusedVariables false
set_option linter.unusedSimpArgs false
namespace Go.Proofs.YtpdpgppaoipnlaaDoor
section
open Go.RowKit Go.PlainAid
open Go.Proofs.YtpdpgppaoipnlaaDoorW.PrintWords hiding bt
open Go.Proofs.YtpdpgppaoipnlaaDoorW.PrintMore

theorem info_v : (Tryd.prog.info? 26).map (fun i => (i.zero, i.size, i.bytes)) = some (some (.agg #[.int .i64 0, .string ⟨#[]⟩, .slice none 0 0, .slice none 0 0]), 4, 72) := by kernel_rfl
/-- A call that returns a value. -/
def RetV (b : Nat) (s : ByteArray) (n : Nat) (x : JV) (j : Nat) (w : World) (e : Ending) (w' : World) : Prop :=
  ∃ cs : List Value, Ret b s (.agg cs.toArray) j w e w' ∧ Hid ((jd n).M w' w.heap.size (fun k => w.heap.size ≤ k) x cs)
/-- What the reader makes of a value's text: (value, place, 0), or (_, place, number). -/
def ValIs (E : Nat → Addr) (b : Nat) (s : ByteArray) (n : Nat) (r : JV × Int × Int) (w : World) (e : Ending) (w' : World) : Prop :=
  (r.2.2 = 0 ∧ RetV b s n r.1 r.2.1.toNat w e w') ∨ (r.2.2 ≠ 0 ∧ Thr E b s r.2.1 r.2.2 w e w')
theorem ValIs.good {E : Nat → Addr} {b n : Nat} {s : ByteArray} {j : Nat} {x : JV} {r : JV × Int × Int} {w w' : World} {e : Ending} (h : r = (x, (j : Int), 0)) (hr : RetV b s n x j w e w') : ValIs E b s n r w e w' := .inl (by rw [h]; exact ⟨rfl, hr⟩)
theorem ValIs.bad {E : Nat → Addr} {b n : Nat} {s : ByteArray} {x : JV} {p c : Int} {r : JV × Int × Int} {w w' : World} {e : Ending} (h : r = (x, p, c)) (hn : c ≠ 0) (hr : Thr E b s p c w e w') : ValIs E b s n r w e w' := .inr (by rw [h]; exact ⟨hn, hr⟩)
/-- What an array's or an object's walk knows of its own variables: n the result, n + 1 the value that is made. -/
structure Own2 (n k : Nat) (v2 v3 : Value) (w : World) : Prop where
  r : VRow n (leafA 0 ⟨#[]⟩) w
  v : VRow (n + 1) #[.int .i64 k, .string ⟨#[]⟩, v2, v3] w
theorem Own2.kept {n k b : Nat} {v2 v3 : Value} {w w' : World} (h : Own2 n k v2 v3 w) (hg : w.grownBy w' (some b)) (hb : b < n) : Own2 n k v2 v3 w' := ⟨h.r.kept hg (by simp; omega), h.v.kept hg (by simp; omega)⟩
theorem VRow.cell {b : Nat} {cs : Array Value} {w : World} (h : VRow b cs w) (o : Nat) (v : Value) (hv : cs[o]? = some v) : w.cell? ⟨b, o, none⟩ = some v := by rw [Lib.cell_of_heap h]; exact hv
theorem VRow.frozen {b : Nat} {cs : Array Value} {w : World} (h : VRow b cs w) (o : Nat) : w.frozen? ⟨b, o, none⟩ = false := Lib.frozen_of_heap h o
theorem VRow.far {b : Nat} {cs : Array Value} {w : World} (h : VRow b cs w) {c o : Nat} (hc : c ≠ b) (v : Value) : VRow b cs (w.setCell ⟨c, o, none⟩ v) := by
  unfold VRow at *
  simp [World.setCell, Array.getElem?_modify, h, hc]
theorem Rd.far {b i : Nat} {s : ByteArray} {w : World} (h : Rd b s i w) {c o : Nat} (hc : c ≠ b) (v : Value) : Rd b s i (w.setCell ⟨c, o, none⟩ v) := by
  unfold Rd at *
  simp [World.setCell, Array.getElem?_modify, h, hc]
theorem below_less {B C : Nat} {w w' : World} (h : Below C w w') (hBC : B ≤ C) : Below B w w' := ⟨h.os, h.tape, h.output, h.size, fun k hk => h.block k (by omega)⟩
theorem setRow_other (w : World) (g : Nat) (ds : Array Value) (k : Nat) (h : k ≠ g) : (w.setRow g ds).heap[k]? = w.heap[k]? := by
  simp only [World.setRow]
  rw [Array.getElem?_modify, if_neg (fun e => h e.symm)]
end





section
open Go.RowKit Go.PlainAid

def keyLit (t : ByteArray) : Lit := .string t.data.toList
theorem key_lit (t : ByteArray) (h : t.size ≤ 1000000) : keyOf Tryd.prog 9 (.string t) = some (keyLit t) := by
  simp [keyOf, mapKey, Tryd.underlying9, keyLit]
  have : (1000000 : Nat) ≤ maxLen := by decide
  omega
theorem strKeyed : Maps.Keyed Tryd.prog 9 := Maps.string_keyed Tryd.underlying9
theorem keyLit_inj {a b : ByteArray} (h : keyLit a = keyLit b) : a = b := by
  unfold keyLit at h
  injection h with h
  cases a; cases b; congr
  exact Array.toList_inj.1 h
/-- A map of the call's own, in which each name of a list stands with 1. -/
def Seen (mb : Nat) (ks : List (List Int)) (w : World) : Prop := ∃ (D : DataW Unit) (n : Nat), w.ownsMap Tryd.prog 9 (plainElem Tryd.prog 3) mb n D ∧ Maps.IsMap D ∧ n ≤ ks.length ∧ ∀ t : ByteArray, D.atKey (keyLit t) (.lit (.int .i64 0)) = .lit (.int .i64 (if ints t ∈ ks then 1 else 0))
theorem Seen.made (w : World) : Seen w.heap.size [] (w.alloc (.map #[] 0)) := ⟨.map [], 0, World.ownsMap_made w _ _ _, Maps.isMap_empty, by simp, fun t => by simp [DataW.atKey]⟩
theorem Seen.kept {mb : Nat} {ks : List (List Int)} {w w' : World} {row : Option Nat} (h : Seen mb ks w) (hg : w.grownBy w' row) (hne : some mb ≠ row) : Seen mb ks w' := by
  obtain ⟨D, n, h1, h2, h3, h4⟩ := h
  exact ⟨D, n, h1.kept hg hne, h2, h3, h4⟩
theorem Seen.put {mb n : Nat} {D : DataW Unit} {ks : List (List Int)} {w' : World} (h2 : Maps.IsMap D) (h3 : n ≤ ks.length) (h4 : ∀ t : ByteArray, D.atKey (keyLit t) (.lit (.int .i64 0)) = .lit (.int .i64 (if ints t ∈ ks then 1 else 0))) (t : ByteArray) (ht : t.size ≤ 1000000)
    (h1 : w'.ownsMap Tryd.prog 9 (plainElem Tryd.prog 3) mb (n + 1) (D.put (keyLit t) (.lit (.int .i64 1)))) : Seen mb (ks ++ [ints t]) w' := by
  refine ⟨_, n + 1, h1, h2.put _ _, by simp; omega, fun u => ?_⟩
  by_cases e : u = t
  · subst e
    rw [Maps.atKey_put_same h2 (strKeyed.key (key_lit u ht)), if_pos (by simp)]
  · rw [Maps.atKey_put_other (fun h => e (keyLit_inj h)), h4 u]
    have : ints u ∈ ks ++ [ints t] ↔ ints u ∈ ks := by
      rw [List.mem_append, List.mem_singleton]
      exact ⟨fun h => h.resolve_right (fun h => e (ints_inj h)), .inl⟩
    simp only [this]
end

section
open Go.RowKit Go.PlainAid

theorem zero_int (w : World) : (zeroValue 3).run Tryd.prog w = .ok (.int .i64 0) w := by kernel_rfl
/-- A map of the call's own: what stands at each name. -/
def SeenF (mb N : Nat) (f : ByteArray → Int) (w : World) : Prop := ∃ (D : DataW Unit) (n : Nat), w.ownsMap Tryd.prog 9 (plainElem Tryd.prog 3) mb n D ∧ Maps.IsMap D ∧ n ≤ N ∧ ∀ t : ByteArray, D.atKey (keyLit t) (.lit (.int .i64 0)) = .lit (.int .i64 (f t))
theorem Seen.open {mb : Nat} {ks : List (List Int)} {w : World} (h : Seen mb ks w) : SeenF mb ks.length (fun t => if ints t ∈ ks then 1 else 0) w := h
theorem SeenF.seen {mb : Nat} {ks : List (List Int)} {f : ByteArray → Int} {w : World} (h : SeenF mb ks.length f w) (hf : ∀ t, f t = if ints t ∈ ks then 1 else 0) : Seen mb ks w := by
  obtain ⟨D, n, h1, h2, h3, h4⟩ := h
  exact ⟨D, n, h1, h2, h3, fun t => by rw [h4 t, hf t]⟩
theorem wpl_seen_look {ops : Array Oper} {rest : List Oper} {a : Act} {w : World} {Q : Exit → Act → World → Prop} {dst : Option Tmp} {m x : Operand} {ty : TypeId} {pos : String} {after : Array Edge} {mb N : Nat} {f : ByteArray → Int} {t : ByteArray}
    (H : SeenF mb N f w) (ht : t.size ≤ 1000000) (hx : a.eval m = .map (some mb)) (hy : a.eval x = .string t) (h : wpList Tryd.prog ops Q rest (a.put dst (.int .i64 (f t))) w) :
    wpList Tryd.prog ops Q ({ dst := dst, op := .lookup 130 m x false, type := ty, pos := pos, after := after, guard := none } :: rest) a w := by
  obtain ⟨D, n, h1, h2, h3, h4⟩ := H
  refine wpList_lookup_own_int w rfl m x 130 rfl 9 3 .i64 strKeyed Tryd.underlying130 Tryd.underlying3 (zero_int w) mb n D hx h1 (.string t) (keyLit t) hy (key_lit t ht) ?_
  intro c hc _
  rw [h4 t] at hc
  injection hc with hc
  injection hc with _ hc
  rw [← hc]
  exact h
end

section
open Go.RowKit Go.PlainAid
open Go.Proofs.YtpdpgppaoipnlaaDoorW.PrintWords hiding bt
open Go.Proofs.YtpdpgppaoipnlaaDoorW.PrintMore

theorem Seen.block {mb : Nat} {ks : List (List Int)} {w w' : World} (h : Seen mb ks w) (hh : w'.heap[mb]? = w.heap[mb]?) : Seen mb ks w' := by
  obtain ⟨D, n, ⟨es, clock, hb, r⟩, h2⟩ := h
  exact ⟨D, n, ⟨es, clock, hh.trans hb, r⟩, h2⟩
end
end Go.Proofs.YtpdpgppaoipnlaaDoor

